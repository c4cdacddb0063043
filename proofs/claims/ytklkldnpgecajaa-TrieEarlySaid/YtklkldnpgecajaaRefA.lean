/- The reference's table of routes: how it reads; find, Get. -/
import Derived.Test.YtklkldnpgecajaaOwn
import Derived.Test.YtklkldnpgecajaaPfxB
namespace Go.Proofs.Ytklkldnpgecajaa
open Go.RowKit Go.Shelf

/-- Block g holds the routes of a table from its head on. -/
structure TabIn (W : World) (g : Nat) (L : List Rt) : Prop where
  lt : g < W.heap.size
  at0 : ∀ k (h : k < L.length), W.cell? ⟨g, k * 3, none⟩ = some (.int .u32 (L[k].a : Int))
  at1 : ∀ k (h : k < L.length), W.cell? ⟨g, k * 3 + 1, none⟩ = some (.int .i64 (L[k].n : Int))
  at2 : ∀ k (h : k < L.length), W.cell? ⟨g, k * 3 + 2, none⟩ = some (.int .i64 L[k].v)
theorem TabIn.below {W W' : World} {g : Nat} {L : List Rt} (h : TabIn W g L) (hb : Below W.heap.size W W') : TabIn W' g L :=
  ⟨Nat.lt_of_lt_of_le h.lt hb.size, fun k hk => (hb.cell (p := ⟨g, k * 3, none⟩) h.lt).trans (h.at0 k hk), fun k hk => (hb.cell (p := ⟨g, k * 3 + 1, none⟩) h.lt).trans (h.at1 k hk), fun k hk => (hb.cell (p := ⟨g, k * 3 + 2, none⟩) h.lt).trans (h.at2 k hk)⟩
/-- A slice that reads as a table. -/
def TabV (W : World) (v : Value) (L : List Rt) : Prop := (L = [] ∧ ∃ p c, v = .slice p 0 c) ∨ ∃ g c, v = .slice (some ⟨g, 0, none⟩) L.length c ∧ TabIn W g L ∧ L.length ≤ c ∧ c ≤ 9223372036854775807
theorem TabV.below {W W' : World} {v : Value} {L : List Rt} (h : TabV W v L) (hb : Below W.heap.size W W') : TabV W' v L :=
  h.imp id fun ⟨g, c, e, t, hc⟩ => ⟨g, c, e, t.below hb, hc⟩
theorem flat_get (L : List Rt) (k : Nat) (h : k < L.length) (j : Nat) (hj : j < 3) : (L.flatMap Rt.cells)[k * 3 + j]? = L[k].cells[j]? := by
  induction L generalizing k with
  | nil => cases h
  | cons x L ih =>
    rw [List.flatMap_cons]
    cases k with
    | zero => rw [List.getElem?_append_left (by simp [Rt.cells]; omega)]; simp
    | succ k =>
      rw [List.getElem?_append_right (by simp [Rt.cells]; omega)]
      have := ih k (by simpa using h)
      rw [show (k + 1) * 3 + j - (Rt.cells x).length = k * 3 + j by simp [Rt.cells]; omega, this]
      rfl
theorem add_at (g j : Nat) : (⟨g, 0, none⟩ : Addr).add j = ⟨g, j, none⟩ := by unfold Addr.add; split <;> simp_all
/-- A row of one's own reads as a table. -/
theorem tab_of_row {W : World} {base : Nat} {v : Value} {L : List Rt} (h : W.ownsRow base 37 3 v L.length (L.flatMap Rt.cells)) : TabV W v L := by
  rcases h.2 with ⟨e, hn⟩ | ⟨g, cap, cur, e, hb, hg, hr1, hr2, hr⟩
  · exact .inl ⟨List.eq_nil_of_length_eq_zero hn, _, _, e⟩
  · have hc := fun j u => h.cells (g := g) (by rw [e]; rfl) j u
    refine .inr ⟨g, cap, e, ⟨(Array.getElem?_eq_some_iff.1 hg).1, fun k hk => ?_, fun k hk => ?_, fun k hk => ?_⟩, hr1, by simpa [maxLen] using hr2⟩
    · rw [← add_at]; exact hc _ _ (by have := flat_get L k hk 0 (by omega); simpa [Rt.cells] using this)
    · rw [← add_at]; exact hc _ _ (by have := flat_get L k hk 1 (by omega); simpa [Rt.cells] using this)
    · rw [← add_at]; exact hc _ _ (by have := flat_get L k hk 2 (by omega); simpa [Rt.cells] using this)

def fndI (pa : Nat) (pn : Int) : Nat → List Rt → Int
  | _, [] => -1
  | i, x :: l => if x.a = pa ∧ (x.n : Int) = pn then (i : Int) else fndI pa pn (i + 1) l
theorem fnd_hit {pa : Nat} {pn : Int} {L : List Rt} {k : Nat} (h : k < L.length) (he : L[k].a = pa ∧ (L[k].n : Int) = pn) : fndI pa pn k (L.drop k) = (k : Int) := by
  rw [List.drop_eq_getElem_cons h, fndI, if_pos he]
theorem fnd_miss {pa : Nat} {pn : Int} {L : List Rt} {k : Nat} (h : k < L.length) (he : ¬ (L[k].a = pa ∧ (L[k].n : Int) = pn)) : fndI pa pn k (L.drop k) = fndI pa pn (k + 1) (L.drop (k + 1)) := by
  rw [List.drop_eq_getElem_cons h, fndI, if_neg he]
theorem fnd_end {pa : Nat} {pn : Int} {L : List Rt} {k : Nat} (h : L.length ≤ k) : fndI pa pn k (L.drop k) = -1 := by
  rw [List.drop_eq_nil_of_le h, fndI]

set_option maxHeartbeats 400000 in
theorem find_nil (p : Option Addr) (c : Nat) (pa : Nat) (pn : Int) (w : World) :
    Calls Try.prog 39 #[.slice p 0 c, .agg #[.int .u32 (pa : Int), .int .i64 pn]] w fun e w' => e = .returned (.int .i64 (-1)) ∧ Below w.heap.size w w' := by
  go_enter Try.func39, Try.ntmps39
  go_wp2
  go_loop [5] (fun i => i = .int .i64 0) (fun _ => 0)
  case atStart => rfl
  case round =>
    obtain rfl := hrel
    go_wp2
    go_ret
    exact ⟨rfl, (Below.refl _ _).alloc (Nat.le_refl _) _⟩

set_option maxHeartbeats 1000000 in
theorem find_some (g c : Nat) (L : List Rt) (pa : Nat) (pn : Int) (w : World) (hT : TabIn w g L) (hc : L.length ≤ 1000000) :
    Calls Try.prog 39 #[.slice (some ⟨g, 0, none⟩) L.length c, .agg #[.int .u32 (pa : Int), .int .i64 pn]] w fun e w' => e = .returned (.int .i64 (fndI pa pn 0 L)) ∧ Below w.heap.size w w' := by
  go_enter Try.func39, Try.ntmps39
  go_wp2_with fail
  obtain ⟨W1, hW1, hsz, kB, hWb⟩ := box_head pa pn w
  have hT1 := hT.below hWb
  rw [← hW1]
  have hB1 : w.heap.size < W1.heap.size := by omega
  have hgl := hT1.lt
  clear hW1 hsz hT
  have d0 := cell_of_pfx kB
  go_loopw [5] (fun i wr => ∃ k : Nat, k ≤ L.length ∧ i = .int .i64 k ∧ RowKit.Hid (fndI pa pn 0 L = fndI pa pn k (L.drop k)) ∧ Below W1.heap.size W1 wr) (fun i _ => L.length - (intOf i).toNat)
  case atStart => exact ⟨0, Nat.zero_le _, rfl, rfl, Below.refl _ _⟩
  case round =>
    obtain ⟨k, hk, rfl, HF, hbw⟩ := hrel
    by_cases hlt : k < L.length
    · have g0 := hT1.at0 k hlt
      have g1 := hT1.at1 k hlt
      by_cases hs : L[k].a = pa ∧ (L[k].n : Int) = pn
      · rw [hs.1] at g0
        rw [hs.2] at g1
        have HE := hid (fnd_hit hlt hs)
        clear hs
        go_upto_region 4 with (fail)
        refine wp_region_staged (fun w' => Below W1.heap.size W1 w') [0, 0, 0, 0, 1, 1, 0] (by kernel_rfl) (by kernel_rfl) (by kernel_rfl) (by exact hbw.drew) ?_
        apply lexF rfl; (· intro _; go_simp; (try go_bits); exact ⟨rfl, rfl⟩); simp only [Act.put, List.setIfInBounds_toArray, List.set_cons_zero, List.set_cons_succ]
        apply lexF rfl; (· intro _; go_simp; (try go_bits); exact ⟨rfl, rfl⟩); simp only [Act.put, List.setIfInBounds_toArray, List.set_cons_zero, List.set_cons_succ]
        apply lexF rfl; (· intro _; go_simp; (try go_bits); exact ⟨rfl, rfl⟩); simp only [Act.put, List.setIfInBounds_toArray, List.set_cons_zero, List.set_cons_succ]
        apply lexF rfl; (· intro _; go_simp; (try go_bits); exact ⟨rfl, rfl⟩); simp only [Act.put, List.setIfInBounds_toArray, List.set_cons_zero, List.set_cons_succ]
        apply lexH rfl; (· intro w' hw'; have hcc := cellsBelow hw'; go_simp; (try go_bits); exact ⟨rfl, hw'⟩); simp only [Act.put, List.setIfInBounds_toArray, List.set_cons_zero, List.set_cons_succ]
        apply lexH rfl; (· intro w' hw'; have hcc := cellsBelow hw'; go_simp; (try go_bits); exact ⟨rfl, hw'⟩); simp only [Act.put, List.setIfInBounds_toArray, List.set_cons_zero, List.set_cons_succ]
        apply lexF rfl; (· intro _; go_simp; (try go_bits); exact ⟨rfl, rfl⟩); simp only [Act.put, List.setIfInBounds_toArray, List.set_cons_zero, List.set_cons_succ]
        refine lexEnd (fun w2 hw2 => ?_)
        go_wp2
        go_ret
        exact ⟨by rw [HF.out, HE.out]; rfl, hWb.trans (hw2.mono (by omega))⟩
      · have HNE := hid (show ¬ ((L[k].a : Int) = (pa : Int) ∧ (L[k].n : Int) = pn) by omega)
        have HE := hid (fnd_miss hlt hs)
        clear hs
        go_upto_region 4 with (fail)
        refine wp_region_staged (fun w' => Below W1.heap.size W1 w') [0, 0, 0, 0, 1, 1, 0] (by kernel_rfl) (by kernel_rfl) (by kernel_rfl) (by exact hbw.drew) ?_
        apply lexF rfl; (· intro _; go_simp; (try go_bits); exact ⟨rfl, rfl⟩); simp only [Act.put, List.setIfInBounds_toArray, List.set_cons_zero, List.set_cons_succ]
        apply lexF rfl; (· intro _; go_simp; (try go_bits); exact ⟨rfl, rfl⟩); simp only [Act.put, List.setIfInBounds_toArray, List.set_cons_zero, List.set_cons_succ]
        apply lexF rfl; (· intro _; go_simp; (try go_bits); exact ⟨rfl, rfl⟩); simp only [Act.put, List.setIfInBounds_toArray, List.set_cons_zero, List.set_cons_succ]
        apply lexF rfl; (· intro _; go_simp; (try go_bits); exact ⟨rfl, rfl⟩); simp only [Act.put, List.setIfInBounds_toArray, List.set_cons_zero, List.set_cons_succ]
        apply lexH rfl; (· intro w' hw'; have hcc := cellsBelow hw'; go_simp; (try go_bits); exact ⟨rfl, hw'⟩); simp only [Act.put, List.setIfInBounds_toArray, List.set_cons_zero, List.set_cons_succ]
        apply lexH rfl; (· intro w' hw'; have hcc := cellsBelow hw'; go_simp; (try go_bits); exact ⟨rfl, hw'⟩); simp only [Act.put, List.setIfInBounds_toArray, List.set_cons_zero, List.set_cons_succ]
        apply lexF rfl
        · intro w'; go_simp; (try go_bits); exact flt_if2 HNE.out
        simp only [Act.put, List.setIfInBounds_toArray, List.set_cons_zero, List.set_cons_succ]
        refine lexEnd (fun w2 hw2 => ?_)
        go_wp2
        go_roundw
        case rel => exact ⟨k + 1, by omega, by go_num, hid (HF.out.trans HE.out), hw2⟩
        case measure => simp [intOf]; omega
    · obtain rfl : k = L.length := by omega
      have HE := hid (fnd_end (pa := pa) (pn := pn) (Nat.le_refl L.length))
      go_wp2
      go_ret
      exact ⟨by rw [HF.out, HE.out]; rfl, hWb.trans (hbw.mono (by omega))⟩

theorem find_any (v : Value) (L : List Rt) (pa : Nat) (pn : Int) (w : World) (hT : TabV w v L) (hc : L.length ≤ 1000000) :
    Calls Try.prog 39 #[v, .agg #[.int .u32 (pa : Int), .int .i64 pn]] w fun e w' => e = .returned (.int .i64 (fndI pa pn 0 L)) ∧ Below w.heap.size w w' := by
  rcases hT with ⟨rfl, p, c, rfl⟩ | ⟨g, c, rfl, hT, _⟩
  · exact find_nil p c pa pn w
  · exact find_some g c L pa pn w hT hc

/-- The value of a prefix in a table. -/
def getL (pa : Nat) (pn : Int) : List Rt → Option Int
  | [] => none
  | x :: l => if x.a = pa ∧ (x.n : Int) = pn then some x.v else getL pa pn l
theorem fnd_get (pa : Nat) (pn : Int) : ∀ (l : List Rt) (i : Nat), (fndI pa pn i l = -1 ∧ getL pa pn l = none) ∨ ∃ k, ∃ h : k < l.length, fndI pa pn i l = ((i + k : Nat) : Int) ∧ getL pa pn l = some l[k].v
  | [], _ => .inl ⟨rfl, rfl⟩
  | x :: l, i => by
    unfold fndI getL
    by_cases h : x.a = pa ∧ (x.n : Int) = pn
    · rw [if_pos h, if_pos h]; exact .inr ⟨0, by simp, by simp, rfl⟩
    · rw [if_neg h, if_neg h]
      rcases fnd_get pa pn l (i + 1) with h1 | ⟨k, hk, h1, h2⟩
      · exact .inl h1
      · exact .inr ⟨k + 1, by simpa using hk, by rw [h1]; omega, by simpa using h2⟩

set_option maxHeartbeats 1000000 in
theorem rget_any (v : Value) (L : List Rt) (pa : Nat) (pn : Int) (w : World) (hT : TabV w v L) (hc : L.length ≤ 1000000) :
    Calls Try.prog 20 #[v, .agg #[.int .u32 (pa : Int), .int .i64 pn]] w fun e w' => e = .returned (getV (getL pa pn L)) ∧ Below w.heap.size w w' := by
  have HFc := hid (fun w1 => find_any v L pa pn w1)
  rcases fnd_get pa pn L 0 with ⟨h1, h2⟩ | ⟨k, hk, h1, h2⟩
  · have H1 := hid h1
    have H2 := hid h2
    clear h1 h2
    go_enter Try.func20, Try.ntmps20
    go_wp2_with fail
    obtain ⟨W1, hW1, hsz, kB, hWb⟩ := box_head pa pn w
    have hT1 := hT.below hWb
    rw [← hW1]
    have hB1 : w.heap.size < W1.heap.size := by omega
    clear hW1 hsz hT
    have d0 := cell_of_pfx kB
    go_wp2_with (go_at_call 39; refine (HFc.out _ hT1 hc).mono ?_; rintro e w2 ⟨rfl, hw2⟩; rw [H1.out])
    go_ret2
    exact ⟨by rw [H2.out]; rfl, hWb.trans (hw2.mono (by omega))⟩
  · have H1 := hid h1
    have H2 := hid h2
    rcases hT with ⟨rfl, _⟩ | ⟨g, c, rfl, hT, hcap⟩
    · cases hk
    clear h1 h2
    go_enter Try.func20, Try.ntmps20
    go_wp2_with fail
    obtain ⟨W1, hW1, hsz, kB, hWb⟩ := box_head pa pn w
    have hT1 := hT.below hWb
    rw [← hW1]
    have hB1 : w.heap.size < W1.heap.size := by omega
    clear hW1 hsz hT
    have d0 := cell_of_pfx kB
    have g2 := fun (w2 : World) (hb : Below W1.heap.size W1 w2) => (hT1.below hb).at2 k hk
    have G2 := hid g2
    clear g2
    go_wp2_with (go_at_call 39; refine (HFc.out _ (.inr ⟨g, c, rfl, hT1, hcap⟩) hc).mono ?_; rintro e w2 ⟨rfl, hw2⟩; rw [H1.out, Nat.zero_add]; have c2 := G2.out _ hw2)
    go_ret2
    exact ⟨by rw [H2.out]; rfl, hWb.trans (hw2.mono (by omega))⟩

end Go.Proofs.Ytklkldnpgecajaa
