/- What the walks of rational numbers need besides: facts that outlive a store, shapes, lengths. -/
import Derived.Test.YtokhapaffleffaaRatA
import Derived.Test.YtokhapaffleffaaTxG
namespace Go.Proofs.Ytokhapaffleffaa
open Go.RowKit
theorem nat_spare {R : Nat} {w : World} {v : Value} {n : Nat} (h : NatV w v n) (hR : NoHd [0] R w) : Spares R w (fun w => NatV w v n) := fun w1 hs hf w2 hb => by
  refine NatV.below (W := w1) (h.imp id fun ⟨h0, g, c, e, t, hc⟩ => ⟨h0, g, c, e, ⟨Nat.lt_of_lt_of_le t.lt hs, fun k hk => ?_⟩, hc⟩) hb
  have hne : g ≠ R := fun e => by
    subst e
    exact absurd (hR _ (t.at0 0 (by omega))) (by simp [rkV])
  rw [← t.at0 k hk]
  exact World.cell?_of_block (w := w) (hf g hne t.lt)
theorem rat_spare {R : Nat} {w : World} {v : Value} {x : Rat} (h : RatV w v x) (hR : NoHd [0] R w) : Spares R w (fun w => RatV w v x) := fun w1 hs hf w2 hb => by
  obtain ⟨p, l, c, q, m, d, rfl, h1, h2⟩ := h
  exact ⟨p, l, c, q, m, d, rfl, nat_spare h1 hR w1 hs hf w2 hb, nat_spare h2 hR w1 hs hf w2 hb⟩
theorem GV.apart {W W' : World} {v : Value} {xs : List Nat} {R : Nat} (h : GV W v xs) (hR : NoHd [1] R W) (hsz : W.heap.size ≤ W'.heap.size) (hE : ∀ g, g ≠ R → g < W.heap.size → W'.heap[g]? = W.heap[g]?) : GV W' v xs := by
  rcases h with h | ⟨g, c, e, hd, hc⟩
  · exact .inl h
  · by_cases hx : xs = []
    · subst hx
      exact .inl ⟨rfl, _, _, e⟩
    · have hpos : 0 < xs.length := List.length_pos_iff.2 hx
      have hne : g ≠ R := fun e => by
        subst e
        exact absurd (hR _ (hd.at0 0 hpos)) (by simp [iCell, rkV])
      refine .inr ⟨g, c, e, ⟨Nat.lt_of_lt_of_le hd.lt hsz, fun k hk => ?_⟩, hc⟩
      rw [← hd.at0 k hk]
      exact World.cell?_of_block (w := W) (hE g hne hd.lt)
section
variable {R R' base o : Nat} {cs : List Value} {w : World} {v : Value} {n : Nat} {x : Rat} {obj : Obj}
theorem spN (hR : NoHd [0] R w) (h : NatV w v n) : ∀ w', Below (putAt R o cs w).heap.size (putAt R o cs w) w' → NatV w' v n := Spares.put (nat_spare h hR) o cs
theorem spQ (hR : NoHd [0] R w) (h : RatV w v x) : ∀ w', Below (putAt R o cs w).heap.size (putAt R o cs w) w' → RatV w' v x := Spares.put (rat_spare h hR) o cs
end
theorem RefR.zero (W : World) : RefR W (.agg #[.bool false, .slice none 0 0, .slice none 0 0]) 0 := ⟨_, _, rfl, RefV.zero W, RefV.zero W⟩
theorem digs6_one {n : Nat} (h : (((digs B6 n).length : Int) == 1) = true) : digs B6 n = [n] := by
  have hl : (digs B6 n).length = 1 := by
    have : ((digs B6 n).length : Int) = 1 := by simpa using h
    omega
  obtain ⟨x, hx⟩ : ∃ x, digs B6 n = [x] := List.length_eq_one_iff.1 hl
  have e := val_digs b6_2 n
  rw [hx] at e
  simp [val] at e
  rw [hx, e]
theorem RefV.one {W : World} {p : Option Addr} {n c : Nat} (h : RefV W (.slice p (digs B6 n).length c) n) (h1 : (((digs B6 n).length : Int) == 1) = true) : ∃ g, p = some ⟨g, 0, none⟩ := by
  rcases h with ⟨h0, _⟩ | ⟨g, _, e, _⟩
  · rw [digs6_one h1] at h0; cases h0
  · injection e with e1
    exact ⟨g, e1⟩
theorem Lm.len {k n : Nat} (h : Lm k n) : (digs B32 n).length ≤ k := digs_len_le b32_2 _ _ h
theorem dlen_of_le {n m : Nat} (h : n ≤ m) {k : Nat} (hk : (digs B32 m).length ≤ k) : (digs B32 n).length ≤ k := Nat.le_trans (digs_mono h) hk
theorem dlen_gcd (n : Nat) {d k : Nat} (hd : d ≠ 0) (h : (digs B32 d).length ≤ k) : (digs B32 (Nat.gcd n d)).length ≤ k := dlen_of_le (Nat.le_of_dvd (Nat.pos_of_ne_zero hd) (Nat.gcd_dvd_right n d)) h
theorem LmQ.d0 {k : Nat} {x : Rat} (h : LmQ k x) : Lm k (den0 x) := h.d.le (by unfold den0; split <;> omega)
end Go.Proofs.Ytokhapaffleffaa
