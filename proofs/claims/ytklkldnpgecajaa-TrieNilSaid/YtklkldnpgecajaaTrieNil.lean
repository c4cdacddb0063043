/- TrieNil: the walk. -/
import Derived.Test.YtklkldnpgecajaaAwakeB
import Derived.Test.YtklkldnpgecajaaPfxB
namespace Go.Proofs.Ytklkldnpgecajaa
open Go.RowKit Go.Shelf

theorem row_none {w : World} {base : Nat} {e : TypeId} {size : Nat} {v : Value} {xs : List Value} (h : w.ownsRow base e size v 0 xs) : ∃ p c, v = .slice p 0 c := by
  rcases h.2 with ⟨h, _⟩ | ⟨g, cap, cur, h, _⟩
  · exact ⟨_, _, h⟩
  · exact ⟨_, _, h⟩
theorem under_none (w : World) : Calls Try.prog 24 #[.pointer none, .agg #[.int .u32 0, .int .i64 0]] w fun e w' => ∃ p c, e = .returned (.slice p 0 c) ∧ Below w.heap.size w w' :=
  (under_any none [] w (.inl ⟨rfl, rfl⟩) (by simp) (by simp) 0 0 (by unfold W32; omega)).mono fun _ _ ⟨v, e, h, hb⟩ => by
    obtain ⟨p, c, rfl⟩ := row_none h
    exact ⟨p, c, e, hb⟩
theorem routes_none (w : World) : Calls Try.prog 13 #[.pointer none] w fun e w' => ∃ p c, e = .returned (.slice p 0 c) ∧ Below w.heap.size w w' :=
  (routes_any none [] w (.inl ⟨rfl, rfl⟩) (by simp)).mono fun _ _ ⟨v, e, h, hb⟩ => by
    obtain ⟨p, c, rfl⟩ := row_none h
    exact ⟨p, c, e, hb⟩
theorem len_none (w : World) : Calls Try.prog 14 #[.pointer none] w fun e w' => e = .returned (.int .i64 0) ∧ Below w.heap.size w w' :=
  len_any none [] w (.inl ⟨rfl, rfl⟩) (by simp)
theorem rvalid_zero (w : World) : Calls Try.prog 27 #[.agg #[.int .u32 0, .int .i64 0]] w fun e w' => e = .returned (.bool true) ∧ Below w.heap.size w w' :=
  rvalid_any 0 0 w (by unfold W32; omega)

/-- What the walk keeps. -/
structure Nl (ra : Nat) (rn rv : Int) (w W : World) : Prop where
  box : W.heap[w.heap.size]? = some (.cells #[.int .u32 (ra : Int), .int .i64 rn, .int .i64 rv] 37)
  lt : w.heap.size < W.heap.size
  old : Below w.heap.size w W
theorem Nl.below {ra : Nat} {rn rv : Int} {w W W' : World} (h : Nl ra rn rv w W) (hb : Below W.heap.size W W') : Nl ra rn rv w W' :=
  ⟨(hb.block _ h.lt).trans h.box, Nat.lt_of_lt_of_le h.lt hb.size, h.old.trans (hb.mono h.old.size)⟩

set_option maxRecDepth 100000 in
set_option maxHeartbeats 2000000 in
theorem trieNil_any (ra : Nat) (rn rv : Int) (w : World) (hra : W32 ra) :
    Calls Try.prog 9 #[.agg #[.int .u32 (ra : Int), .int .i64 rn, .int .i64 rv]] w fun e w' => e = .returned (.bool true) ∧ Below w.heap.size w w' := by
  go_enter Try.func9, Try.ntmps9
  go_upto_region 4 with (first
    | (go_at_call 10; refine (awake_any _).mono ?_; rintro e w1 ⟨rfl, hb1⟩)
    )
  have N : Nl ra rn rv w w1 := Nl.below ⟨heap_alloc_at w _, by simp, (Below.refl _ _).alloc (Nat.le_refl _) _⟩ hb1
  clear hb1
  obtain ⟨c0, c1, c2⟩ := cell_of_box3 N.box
  go_upto_region 5 with (first
    | (go_at_call 17; refine (lookNil ra _).mono ?_; rintro e w2 ⟨rfl, hb2⟩; simp only [lookV])
    )
  obtain ⟨W, hW⟩ : ∃ W, W = w2.alloc zeroRoute := ⟨_, rfl⟩
  have hWb : Below w2.heap.size w2 W := by rw [hW]; exact (Below.refl _ _).alloc (Nat.le_refl _) _
  have kX : W.heap[w2.heap.size]? = some zeroRoute := by rw [hW]; exact heap_alloc_at w2 _
  have N2 := (N.below hb2).below hWb
  simp only [zeroRoute] at hW
  have hXl : w2.heap.size < W.heap.size := by rw [hW]; simp
  rw [← hW]
  clear hW hWb hb2 N c0 c1 c2
  obtain ⟨c0, c1, c2⟩ := cell_of_box3 N2.box
  go_upto_region 6 with (first
    | (go_at_call 19; refine (getNil ra rn _).mono ?_; rintro e w3 ⟨rfl, hb3⟩; simp only [getV])
    )
  have N3 := N2.below hb3
  have kX3 : w3.heap[w2.heap.size]? = some zeroRoute := (hb3.block _ hXl).trans kX
  have hXl3 : w2.heap.size < w3.heap.size := Nat.lt_of_lt_of_le hXl hb3.size
  clear hb3 c0 c1 c2 kX hXl N2
  obtain ⟨c0, c1, c2⟩ := cell_of_box3 N3.box
  go_wp2_with (first
    | (go_at_call 22; refine (putNil ra rn rv _).mono ?_; rintro e w4 ⟨rfl, hb4⟩; have N4 := N3.below hb4; have kX4 := (hb4.block _ hXl3).trans kX3; have hXl4 := Nat.lt_of_lt_of_le hXl3 hb4.size; obtain ⟨d0, d1, d2⟩ := cell_of_box3 N4.box)
    | (go_at_call 26; refine (remNil ra rn _).mono ?_; rintro e w5 ⟨rfl, hb5⟩; have N5 := N4.below hb5; have kX5 := (hb5.block _ hXl4).trans kX4; obtain ⟨z0, z1, z2⟩ := zero_cells kX5)
    | (go_at_call 13; refine (routes_none _).mono ?_; rintro e w6 ⟨p6, c6, rfl, hb6⟩; have N6 := N5.below hb6)
    | (go_at_call 24; refine (under_none _).mono ?_; rintro e w7 ⟨p7, c7, rfl, hb7⟩; have N7 := N6.below hb7)
    | (go_at_call 14; refine (len_none _).mono ?_; rintro e w8 ⟨rfl, hb8⟩; have N8 := N7.below hb8)
    | (go_at_call 15; refine (nodesNil _).mono ?_; rintro e w9 ⟨rfl, hb9⟩; have N9 := N8.below hb9)
    | (go_at_call 27; refine (rvalid_zero _).mono ?_; rintro e w10 ⟨rfl, hb10⟩; have N10 := N9.below hb10)
    )
  go_ret
  exact ⟨rfl, N10.old⟩

end Go.Proofs.Ytklkldnpgecajaa
