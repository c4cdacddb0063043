/- The reference: without, carried. -/
import Derived.Test.YtepljhpamconbaaDoorNatRA
namespace Go.Proofs.YtepljhpamconbaaDoor
open Go.RowKit

def B6 : Nat := 1000000
theorem b6 : B6 = 1000000 := rfl
theorem b6_2 : 2 ≤ B6 := by decide
def iCell (x : Nat) : Value := .int .i64 (x : Int)
/-- Block g holds groups from its head on. -/
structure GDig (W : World) (g : Nat) (xs : List Nat) : Prop where
  lt : g < W.heap.size
  at0 : ∀ k (h : k < xs.length), W.cell? ⟨g, k, none⟩ = some (iCell xs[k])
theorem GDig.below {W W' : World} {g : Nat} {xs : List Nat} (h : GDig W g xs) (hb : Below W.heap.size W W') : GDig W' g xs :=
  ⟨Nat.lt_of_lt_of_le h.lt hb.size, fun k hk => (hb.cell (p := ⟨g, k, none⟩) h.lt).trans (h.at0 k hk)⟩
/-- A slice of groups. -/
def GV (W : World) (s : Value) (xs : List Nat) : Prop := (xs = [] ∧ ∃ p c, s = .slice p 0 c) ∨ ∃ g c, s = .slice (some ⟨g, 0, none⟩) xs.length c ∧ GDig W g xs ∧ xs.length ≤ c ∧ c ≤ maxLen
theorem GV.below {W W' : World} {s : Value} {xs : List Nat} (h : GV W s xs) (hb : Below W.heap.size W W') : GV W' s xs :=
  h.imp id fun ⟨g, c, e, t, hc⟩ => ⟨g, c, e, t.below hb, hc⟩
theorem GV.slice {W : World} {s : Value} {xs : List Nat} (h : GV W s xs) : ∃ p c, s = .slice p xs.length c ∧ (xs ≠ [] → ∃ g, p = some ⟨g, 0, none⟩ ∧ GDig W g xs ∧ xs.length ≤ c ∧ c ≤ maxLen) := by
  rcases h with ⟨rfl, p, c, rfl⟩ | ⟨g, c, rfl, h1, h2⟩
  · exact ⟨p, c, rfl, fun h => absurd rfl h⟩
  · exact ⟨_, c, rfl, fun _ => ⟨g, rfl, h1, h2⟩⟩
/-- Groups in a row of one's own. -/
def RowI (W : World) (base : Nat) (v : Value) (xs : List Nat) : Prop := W.ownsRow base 3 1 v xs.length (xs.map iCell)
theorem RowI.gv {W : World} {base : Nat} {v : Value} {xs : List Nat} (h : RowI W base v xs) : GV W v xs := by
  by_cases hn : xs = []
  · subst hn
    obtain ⟨p, c, e⟩ := row_slice h
    exact .inl ⟨rfl, p, c, e⟩
  · rcases h.2 with ⟨_, h0⟩ | ⟨g, cap, cur, rfl, hg, hb, hle, hm, hs, ht⟩
    · exact absurd (List.eq_nil_of_length_eq_zero h0) hn
    · refine .inr ⟨g, cap, rfl, ⟨(Array.getElem?_eq_some_iff.1 hb).1, fun k hk => ?_⟩, hle, hm⟩
      obtain ⟨g', cap', e0, _, hc⟩ := row1_cell h (by simp) (k := k) (by simpa using hk)
      injection e0 with e1
      injection e1 with e1
      injection e1 with e1
      subst e1
      rw [hc, List.getElem_map]
/-- A number of the reference. -/
def RefV (W : World) (v : Value) (n : Nat) : Prop := GV W v (digs B6 n)
theorem RefV.below {W W' : World} {s : Value} {n : Nat} (h : RefV W s n) (hb : Below W.heap.size W W') : RefV W' s n := GV.below h hb
theorem infoI : (Tryd.prog.info? 3).map (fun i => (i.zero, i.size, i.bytes)) = some (some (.int .i64 0), 1, 8) := by kernel_rfl
theorem one_i (c : Nat) : ∀ u ∈ [iCell c], u.oneCell' = true := by
  intro u hu; simp only [List.mem_cons, List.not_mem_nil, or_false] at hu; rw [hu]; rfl
theorem all_i (xs : List Nat) : ∀ u ∈ xs.map iCell, u.oneCell' = true := by
  intro u hu
  obtain ⟨x, _, rfl⟩ := List.mem_map.1 hu
  rfl
theorem row_empty (W : World) (t : TypeId) (base : Nat) (hb : base ≤ W.heap.size) : (W.alloc (.cells #[] t)).ownsRow base t 1 (.slice (some ⟨W.heap.size, 0, none⟩) 0 0) 0 [] :=
  ⟨rfl, .inr ⟨W.heap.size, 0, #[], rfl, hb, heap_new W _, Nat.le_refl _, Nat.zero_le _, rfl, rfl⟩⟩

set_option maxRecDepth 100000 in
set_option maxHeartbeats 2000000 in
theorem without_any (v : Value) (xs : List Nat) (w : World) (hv : GV w v xs) (hl : xs.length ≤ 1000000) :
    Calls Tryd.prog 47 #[v] w fun e w' => ∃ v', e = .returned v' ∧ GV w' v' (trimD xs) ∧ Below w.heap.size w w' := by
  obtain ⟨i0, hi, hz0, hz1, hz2⟩ := info_parts infoI
  obtain ⟨p, c, rfl, hpg⟩ := hv.slice
  clear hv
  go_enter Tryd.func47, Tryd.ntmps47
  go_wp2_with fail
  go_loop [0] (fun n => ∃ k : Nat, k ≤ xs.length ∧ n = .slice p k c ∧ RowKit.Hid (trimD xs = trimD (xs.take k))) (fun n => sliceLen n)
  case atStart => exact ⟨xs.length, Nat.le_refl _, rfl, hid (by rw [List.take_length])⟩
  case round =>
    obtain ⟨k, hk, rfl, HT⟩ := hrel
    by_cases hk0 : k = 0
    · subst hk0
      have HE := hid (show trimD xs = [] from HT.out)
      go_wp2_with (at_builtin; go_loud (refine wpList_append_two rfl _ _ 28 27 rfl w.heap.size 3 3 i0 _ 8 Tryd.underlying28 Tryd.underlying27 hi hz0 hz1 hz2 rfl _ 0 [] rfl (row_empty w 3 _ (Nat.le_refl _)) p 0 c (([] : List Nat).map iCell) rfl (by simp; try omega) (.inl rfl) (all_i _) (by simp [maxLen]; try omega) (by omega) (by simp) ?_; intro v' w2 hown hgr; have hb2 := ((Below.refl w.heap.size w).alloc (Nat.le_refl _) _).grown hgr (by simp) (fun k' hk' => by injection hk' with hk'; subst hk'; exact Nat.le_refl _)))
      go_ret
      exact ⟨_, rfl, by rw [HE.out]; exact RowI.gv hown, hb2⟩
    · obtain ⟨j, rfl⟩ : ∃ j, k = j + 1 := ⟨k - 1, by omega⟩
      have hj : j < xs.length := by omega
      obtain ⟨g, rfl, hg, hc1, hc2⟩ := hpg (fun e => by subst e; simp at hj)
      have g0 := hg.at0 j hj
      unfold iCell at g0
      have hgt : (0 : Int) < ((j + 1 : Nat) : Int) := by omega
      have hgl := hg.lt
      by_cases hz : xs[j] = 0
      · rw [hz] at g0
        have HZ := hid (trim_take_zero hk hz)
        clear hz
        go_wp2
        go_round
        case rel => exact ⟨j, by omega, rfl, hid (HT.out.trans HZ.out)⟩
        case measure => simp [sliceLen]
      · have hzi : (((xs[j] : Nat) : Int) == 0) = false := by rw [beq_eq_false_iff_ne]; omega
        have HE := hid (HT.out.trans (trim_take_last hk hz))
        clear hz
        have hcell : ∀ t, ∀ i u, ((xs.take (j + 1)).map iCell)[i]? = some u → (w.alloc (.cells #[] t)).cell? ((⟨g, 0, none⟩ : Addr).add i) = some u := by
          intro t i u hu
          rw [add_at, ((Below.refl w.heap.size w).alloc (Nat.le_refl _) _).cell (p := ⟨g, i, none⟩) hgl]
          obtain ⟨hi', rfl⟩ := List.getElem?_eq_some_iff.1 hu
          rw [List.length_map, List.length_take] at hi'
          rw [hg.at0 i (by omega)]; simp
        go_wp2_with (at_builtin; go_loud (refine wpList_append_two rfl _ _ 28 27 rfl w.heap.size 3 3 i0 _ 8 Tryd.underlying28 Tryd.underlying27 hi hz0 hz1 hz2 rfl _ 0 [] rfl (row_empty w 3 _ (Nat.le_refl _)) (some ⟨g, 0, none⟩) (j + 1) c ((xs.take (j + 1)).map iCell) rfl (by simp; try omega) (.inr ⟨_, rfl, hcell _⟩) (all_i _) (by simp [maxLen]; try omega) (by omega) (by simp) ?_; intro v' w2 hown hgr; have hb2 := ((Below.refl w.heap.size w).alloc (Nat.le_refl _) _).grown hgr (by simp) (fun k' hk' => by injection hk' with hk'; subst hk'; exact Nat.le_refl _)))
        go_ret
        refine ⟨_, rfl, ?_, hb2⟩
        rw [HE.out]
        refine RowI.gv (base := w.heap.size) ?_
        unfold RowI
        rw [List.length_take, Nat.min_eq_left hk]
        simpa using hown

end Go.Proofs.YtepljhpamconbaaDoor
