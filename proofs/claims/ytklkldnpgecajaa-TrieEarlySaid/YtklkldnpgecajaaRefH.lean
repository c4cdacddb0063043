/- The reference's functions for the number of nodes: meet, with, Nodes. -/
import Derived.Test.YtklkldnpgecajaaRefG
namespace Go.Proofs.Ytklkldnpgecajaa
open Go.RowKit Go.Shelf

/-- The state of meet's loop: the boxes of the two prefixes, the result's cells. -/
structure MeetAt (w wr : World) (a n b m : Nat) : Prop where
  pb : wr.heap[w.heap.size]? = some (.cells #[.int .u32 (a : Int), .int .i64 (n : Int)] 35)
  qb : wr.heap[w.heap.size + 1]? = some (.cells #[.int .u32 (b : Int), .int .i64 (m : Int)] 35)
  rb : wr.heap[w.heap.size + 1 + 1]? = some (.cells #[.int .u32 0, .int .i64 0] 35)
  old : Below w.heap.size w wr
  size : w.heap.size + 3 ≤ wr.heap.size
theorem MeetAt.below {w wr w2 : World} {a n b m : Nat} (h : MeetAt w wr a n b m) (hb : Below wr.heap.size wr w2) : MeetAt w w2 a n b m :=
  have hs := h.size
  ⟨(hb.block _ (by omega)).trans h.pb, (hb.block _ (by omega)).trans h.qb, (hb.block _ (by omega)).trans h.rb, h.old.trans (hb.mono h.old.size), Nat.le_trans hs hb.size⟩
theorem MeetAt.set {w wr : World} {a n b m : Nat} (h : MeetAt w wr a n b m) (a' n' : Nat) :
    MeetAt w ((wr.setCell ⟨w.heap.size, 0, none⟩ (.int .u32 (a' : Int))).setCell ⟨w.heap.size, 1, none⟩ (.int .i64 (n' : Int))) a' n' b m := by
  refine ⟨heap_setCell_at (heap_setCell_at h.pb _) _, ?_, ?_, (h.old.setCell (p := ⟨w.heap.size, 0, none⟩) (Nat.le_refl _) _).setCell (p := ⟨w.heap.size, 1, none⟩) (Nat.le_refl _) _, by simpa [World.setCell] using h.size⟩
  · rw [setCell_far _ (by omega), setCell_far _ (by omega)]; exact h.qb
  · rw [setCell_far _ (by omega), setCell_far _ (by omega)]; exact h.rb
theorem meet_box (a n b m : Nat) (w : World) :
    ∃ W1, W1 = ((w.alloc (.cells #[.int .u32 (a : Int), .int .i64 (n : Int)] 35)).alloc (.cells #[.int .u32 (b : Int), .int .i64 (m : Int)] 35)).alloc (.cells #[.int .u32 0, .int .i64 0] 35) ∧ MeetAt w W1 a n b m := by
  refine ⟨_, rfl, ?_, ?_, ?_, (((Below.refl _ w).alloc (Nat.le_refl _) _).alloc (by simp) _).alloc (by simp; omega) _, by simp⟩
  · rw [Below.heap_alloc _ _ _ (by simp; omega), Below.heap_alloc _ _ _ (by simp)]; exact heap_alloc_at w _
  · rw [Below.heap_alloc _ _ _ (by simp)]
    have := heap_alloc_at (w.alloc (.cells #[.int .u32 (a : Int), .int .i64 (n : Int)] 35)) (.cells #[.int .u32 (b : Int), .int .i64 (m : Int)] 35)
    rwa [World.size_alloc] at this
  · have := heap_alloc_at ((w.alloc (.cells #[.int .u32 (a : Int), .int .i64 (n : Int)] 35)).alloc (.cells #[.int .u32 (b : Int), .int .i64 (m : Int)] 35)) (.cells #[.int .u32 0, .int .i64 0] 35)
    rwa [World.size_alloc, World.size_alloc] at this
theorem meet_fin {w wr : World} {a n b m : Nat} (h : MeetAt w wr a n b m) :
    ∃ W, W = (wr.setCell ⟨w.heap.size + 1 + 1, 0, none⟩ (.int .u32 (a : Int))).setCell ⟨w.heap.size + 1 + 1, 1, none⟩ (.int .i64 (n : Int)) ∧
      W.cell? ⟨w.heap.size + 1 + 1, 0, none⟩ = some (.int .u32 (a : Int)) ∧ W.cell? ⟨w.heap.size + 1 + 1, 1, none⟩ = some (.int .i64 (n : Int)) ∧ Below w.heap.size w W := by
  have h0 := cell_of_pfx (heap_setCell_at (o := 1) (heap_setCell_at (o := 0) h.rb (.int .u32 (a : Int))) (.int .i64 (n : Int)))
  exact ⟨_, rfl, h0.1, h0.2, (h.old.setCell (p := ⟨w.heap.size + 1 + 1, 0, none⟩) (by simp; omega) _).setCell (p := ⟨w.heap.size + 1 + 1, 1, none⟩) (by simp; omega) _⟩
theorem cvr_zero {a b m : Nat} (h : V a 0) (hb : V b m) : cvr a ((0 : Nat) : Int) b (m : Int) = true := by
  have h1 := h.top
  have hs : sz 0 = 4294967296 := by simp [sz]
  have := hb.w32
  unfold W32 at this
  exact (h.cvr hb).2 ⟨Nat.zero_le _, by omega, by omega⟩

theorem rparent_s (x j : Nat) (w : World) (h : V x (j + 1)) :
    Calls Try.prog 48 #[.agg #[.int .u32 (x : Int), .int .i64 ((j + 1 : Nat) : Int)]] w fun e w' =>
      e = .returned (.tuple #[.agg #[.int .u32 ((base j x : Nat) : Int), .int .i64 (j : Int)], .int .i64 0]) ∧ Below w.heap.size w w' := by
  have := rparent_any x (j + 1) w h.w32 h.vld (by omega)
  rwa [Nat.add_sub_cancel] at this

set_option maxRecDepth 100000 in
set_option maxHeartbeats 2000000 in
theorem meet_any (a n b m : Nat) (w : World) (ha : V a n) (hb : V b m) :
    Calls Try.prog 33 #[.agg #[.int .u32 (a : Int), .int .i64 (n : Int)], .agg #[.int .u32 (b : Int), .int .i64 (m : Int)]] w fun e w' =>
      e = .returned (.agg #[.int .u32 ((meetP b m a n).1 : Int), .int .i64 ((meetP b m a n).2 : Int)]) ∧ Below w.heap.size w w' := by
  have HA := hid ha
  have HB := hid hb
  clear ha hb
  go_enter Try.func33, Try.ntmps33
  go_wp2_with fail
  obtain ⟨W1, hW1, hat⟩ := meet_box a n b m w
  rw [← hW1]
  clear hW1
  go_loopg [5] n (fun k _ wr => ∃ (x j : Nat), k = j ∧ V x j ∧ RowKit.Hid (meetP b m a n = meetP b m x j) ∧ MeetAt w wr x j b m)
  case atStart => exact ⟨a, n, rfl, HA.out, rfl, hat⟩
  case round =>
    obtain ⟨x, j, hkj, hx, HM, hat⟩ := hrel
    have HJ := hid hkj
    clear hkj
    have HX := hid hx
    have hxw := hx.w32
    have hbw := HB.out.w32
    obtain ⟨p0, p1⟩ := cell_of_pfx hat.pb
    obtain ⟨q0, q1⟩ := cell_of_pfx hat.qb
    clear hx
    cases hc : cvr x (j : Int) b (m : Int) with
    | true =>
      have HC := hid hc
      have HE := hid (meet_over hc)
      clear hc
      go_wp2_with (go_at_call 43; refine (rcovers_any x j b m _ hxw hbw).mono ?_; rintro e w2 ⟨rfl, hw2⟩; rw [HC.out]; have hat2 := hat.below hw2; obtain ⟨p0', p1'⟩ := cell_of_pfx hat2.pb; obtain ⟨r0', r1'⟩ := cell_of_pfx hat2.rb; have hf := box2_free hat2.rb)
      obtain ⟨WF, hWF, f0, f1, f3⟩ := meet_fin hat2
      rw [← hWF]
      clear hWF
      refine bodyPost_ret (v := .agg #[.int .u32 (x : Int), .int .i64 (j : Int)]) (by simp [results, Try.results33, go_sem, f0, f1]) rfl ⟨by rw [HM.out, HE.out], f3⟩
    | false =>
      cases j with
      | zero => have := cvr_zero HX.out HB.out; rw [hc] at this; cases this
      | succ j =>
        have HC := hid hc
        have HE := hid (show meetP b m x (j + 1) = meetP b m (base j x) j by rw [meetP, if_neg (by rw [hc]; simp)])
        have HP := hid HX.out.parent
        clear hc
        go_wp2_with (first
          | (go_at_call 43; refine (rcovers_any x ((j + 1 : Nat) : Int) b m _ hxw hbw).mono ?_; rintro e w2 ⟨rfl, hw2⟩; rw [HC.out]; have hat2 := hat.below hw2; clear p0 p1 q0 q1; obtain ⟨p0', p1'⟩ := cell_of_pfx hat2.pb)
          | (go_at_call 48; refine (rparent_s x j _ HX.out).mono ?_; rintro e w3 ⟨rfl, hw3⟩; have hat3 := hat2.below hw3; clear p0' p1'; obtain ⟨p0, p1⟩ := cell_of_pfx hat3.pb; have hf := box2_free hat3.pb))
        go_roundg j
        case measure => have := HJ.out; omega
        case rel => exact ⟨base j x, j, rfl, HP.out, hid (HM.out.trans HE.out), hat3.set (base j x) j⟩

end Go.Proofs.Ytklkldnpgecajaa
