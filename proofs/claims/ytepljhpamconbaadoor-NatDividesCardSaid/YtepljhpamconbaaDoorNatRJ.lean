/- The reference: Sub. -/
import Derived.Test.YtepljhpamconbaaDoorNatRG
namespace Go.Proofs.YtepljhpamconbaaDoor
open Go.RowKit

def zCell (z : Int) : Value := .int .i64 z
theorem iCell_z (xs : List Nat) : xs.map iCell = (xs.map fun x : Nat => (x : Int)).map zCell := by rw [List.map_map]; rfl
/-- Integers in a row of one's own. -/
def RowZ (W : World) (base : Nat) (v : Value) (zs : List Int) : Prop := W.ownsRow base 3 1 v zs.length (zs.map zCell)
theorem RowZ.of {W : World} {base : Nat} {v : Value} {xs : List Nat} (h : RowI W base v xs) : RowZ W base v (xs.map fun x : Nat => (x : Int)) := by
  unfold RowZ
  rw [← iCell_z, List.length_map]
  exact h
theorem RowZ.to {W : World} {base : Nat} {v : Value} {xs : List Nat} {zs : List Int} (h : RowZ W base v zs) (e : zs = xs.map fun x : Nat => (x : Int)) : RowI W base v xs := by
  subst e
  unfold RowZ at h
  rw [← iCell_z, List.length_map] at h
  exact h
theorem RowZ.slice {W : World} {base : Nat} {v : Value} {zs : List Int} (h : RowZ W base v zs) (hn : zs ≠ []) : ∃ g cap, v = .slice (some ⟨g, 0, none⟩) zs.length cap ∧ base ≤ g := by
  have hk : 0 < zs.length := List.length_pos_iff.2 hn
  obtain ⟨g, cap, rfl, hg, _⟩ := row1_cell h (by simp) (k := 0) (by simpa using hk)
  exact ⟨g, cap, rfl, hg⟩
theorem RowZ.at {W : World} {base g cap n : Nat} {zs : List Int} (h : RowZ W base (.slice (some ⟨g, 0, none⟩) n cap) zs) {k : Nat} (hk : k < zs.length) : W.cell? ⟨g, k, none⟩ = some (.int .i64 zs[k]) := by
  obtain ⟨g', cap', e0, _, hc⟩ := row1_cell h (by simp) (k := k) (by simpa using hk)
  injection e0 with e1
  injection e1 with e1
  injection e1 with e1
  subst e1
  rw [hc, List.getElem_map]; rfl
theorem RowZ.lt {W : World} {base g cap n : Nat} {zs : List Int} (h : RowZ W base (.slice (some ⟨g, 0, none⟩) n cap) zs) : g < W.heap.size := (row1_lt h g rfl).2
theorem RowZ.free {W : World} {base g cap n : Nat} {zs : List Int} (h : RowZ W base (.slice (some ⟨g, 0, none⟩) n cap) zs) (hn : n = zs.length) : ∀ o, W.frozen? ⟨g, o, none⟩ = false := by
  subst hn
  exact row1_free h
theorem RowZ.below {W W' : World} {base : Nat} {v : Value} {zs : List Int} (h : RowZ W base v zs) (hb : Below W.heap.size W W') : RowZ W' base v zs := row_kept_low h hb
theorem RowZ.set {W : World} {base g cap n : Nat} {zs : List Int} (h : RowZ W base (.slice (some ⟨g, 0, none⟩) n cap) zs) (hn : n = zs.length) (k : Nat) (hk : k < zs.length) (z : Int) : RowZ (W.setCell ⟨g, k, none⟩ (.int .i64 z)) base (.slice (some ⟨g, 0, none⟩) n cap) (zs.set k z) := by
  subst hn
  have := row1_set h k (zCell z) hk
  unfold RowZ
  rw [List.length_set, List.map_set]
  exact this
/-- What stands behind the place in hand: one is borrowed of it or not. -/
def subTail (b : Int) : List Nat → List Int
  | [] => []
  | x :: r => ((x : Int) - b) :: r.map fun x : Nat => (x : Int)
theorem subTail_zero (r : List Nat) : subTail 0 r = r.map fun x : Nat => (x : Int) := by cases r <;> simp [subTail]
theorem subTail_len (b : Int) (r : List Nat) : (subTail b r).length = r.length := by cases r <;> simp [subTail]
/-- The state of Sub's loop at place k: b is borrowed. -/
structure SubR (W0 : World) (v : Value) (xs ys : List Nat) (k b : Nat) (wr : World) : Prop where
  row : ∃ os : List Nat, RowZ wr W0.heap.size v (os.map (fun x : Nat => (x : Int)) ++ subTail b (xs.drop k)) ∧ os.length = k ∧ (∀ x ∈ os, x < B6) ∧ val B6 os + val B6 (ys.take k) = val B6 (xs.take k) + B6 ^ k * b
  old : Below W0.heap.size W0 wr
  b1 : b ≤ 1
/-- At the last place nothing is borrowed. -/
theorem sub_last {xs ys os : List Nat} {L b : Nat} (hL : xs.length = L) (ho : os.length = L) (hb : ∀ x ∈ os, x < B6) (hv : val B6 os + val B6 (ys.take L) = val B6 (xs.take L) + B6 ^ L * b) (hle : val B6 ys ≤ val B6 xs) : b = 0 := by
  have h1 : val B6 os < B6 ^ L := by
    have := val_lt b6_2 hb
    rwa [ho] at this
  rw [List.take_of_length_le (show xs.length ≤ L by omega)] at hv
  have h2 : val B6 (ys.take L) ≤ val B6 ys := by
    by_cases h : L ≤ ys.length
    · rw [val_take_drop ys L h]; exact Nat.le_add_right _ _
    · rw [List.take_of_length_le (by omega)]; exact Nat.le_refl _
  rcases Nat.eq_zero_or_pos b with h | h
  · exact h
  · have : B6 ^ L * 1 ≤ B6 ^ L * b := Nat.mul_le_mul_left _ h
    omega
theorem subr_val {xs ys os : List Nat} {k b x y t b' : Nat} (ho : os.length = k) (hv : val B6 os + val B6 (ys.take k) = val B6 (xs.take k) + B6 ^ k * b) (hx : val B6 (xs.take (k + 1)) = val B6 (xs.take k) + B6 ^ k * x) (hy : val B6 (ys.take (k + 1)) = val B6 (ys.take k) + B6 ^ k * y)
    (ht : t + b + y = x + 1000000 * b') : val B6 (os ++ [t]) + val B6 (ys.take (k + 1)) = val B6 (xs.take (k + 1)) + B6 ^ (k + 1) * b' := by
  rw [val_snoc, hx, hy, ho, Nat.pow_succ, Nat.mul_assoc, b6]
  rw [b6] at hv
  generalize (1000000 : Nat) ^ k = p at *
  have e : p * t + p * b + p * y = p * x + p * (1000000 * b') := by rw [← Nat.mul_add, ← Nat.mul_add, ht, Nat.mul_add]
  omega
theorem at_mid (os : List Int) (z : Int) (r : List Int) {k : Nat} (h : os.length = k) (hk : k < (os ++ z :: r).length) : (os ++ z :: r)[k] = z := by subst h; simp
theorem set_mid (os : List Int) (z z' : Int) (r : List Int) {k : Nat} (h : os.length = k) : (os ++ z :: r).set k z' = os ++ z' :: r := by subst h; simp
theorem set_mid1 (os : List Int) (t z z' : Int) (r : List Int) {k : Nat} (h : os.length = k) : (os ++ t :: z :: r).set (k + 1) z' = os ++ t :: z' :: r := by
  have := set_mid (os ++ [t]) z z' r (k := k + 1) (by simp [h])
  simpa using this
theorem at_mid1 (os : List Int) (t z : Int) (r : List Int) {k : Nat} (h : os.length = k) (hk : k + 1 < (os ++ t :: z :: r).length) : (os ++ t :: z :: r)[k + 1] = z := by
  subst h; simp
/-- A borrow-free step. -/
theorem SubR.keep {W0 wr w' : World} {v : Value} {xs ys os r : List Nat} {k b x y t : Nat} (h : SubR W0 v xs ys k b wr) (ho : os.length = k) (hob : ∀ x ∈ os, x < B6) (hv : val B6 os + val B6 (ys.take k) = val B6 (xs.take k) + B6 ^ k * b) (hd : xs.drop k = x :: r) (hk : k < xs.length) (hy : val B6 (ys.take (k + 1)) = val B6 (ys.take k) + B6 ^ k * y) (ht : t + b + y = x) (hx1 : x < 1000000)
    (hrow : RowZ w' W0.heap.size v (os.map (fun x : Nat => (x : Int)) ++ ((t : Nat) : Int) :: r.map fun x : Nat => (x : Int))) (hold : Below W0.heap.size W0 w') : SubR W0 v xs ys (k + 1) 0 w' := by
  have hx : xs[k] = x := by rw [List.drop_eq_getElem_cons hk] at hd; exact (List.cons.inj hd).1
  have hr : xs.drop (k + 1) = r := by rw [List.drop_eq_getElem_cons hk] at hd; exact (List.cons.inj hd).2
  refine ⟨⟨os ++ [t], ?_, by simp [ho], fun z hz => ?_, subr_val ho hv (by rw [val_take_succ hk, hx]) hy (by omega)⟩, hold, by omega⟩
  · rw [hr, show ((0 : Nat) : Int) = 0 from rfl, subTail_zero]
    simpa using hrow
  · rcases List.mem_append.1 hz with h1 | h1
    · exact hob z h1
    · simp only [List.mem_cons, List.not_mem_nil, or_false] at h1; rw [h1, b6]; omega
/-- A step that borrows. -/
theorem SubR.bor {W0 wr w' : World} {v : Value} {xs ys os r : List Nat} {k b x y t x' : Nat} (h : SubR W0 v xs ys k b wr) (ho : os.length = k) (hob : ∀ x ∈ os, x < B6) (hv : val B6 os + val B6 (ys.take k) = val B6 (xs.take k) + B6 ^ k * b) (hd : xs.drop k = x :: x' :: r) (hk : k < xs.length) (hy : val B6 (ys.take (k + 1)) = val B6 (ys.take k) + B6 ^ k * y) (ht : t + b + y = x + 1000000) (ht1 : t < 1000000)
    (hrow : RowZ w' W0.heap.size v (os.map (fun x : Nat => (x : Int)) ++ ((t : Nat) : Int) :: (((x' : Nat) : Int) - 1) :: r.map fun x : Nat => (x : Int))) (hold : Below W0.heap.size W0 w') : SubR W0 v xs ys (k + 1) 1 w' := by
  have hx : xs[k] = x := by rw [List.drop_eq_getElem_cons hk] at hd; exact (List.cons.inj hd).1
  have hr : xs.drop (k + 1) = x' :: r := by rw [List.drop_eq_getElem_cons hk] at hd; exact (List.cons.inj hd).2
  refine ⟨⟨os ++ [t], ?_, by simp [ho], fun z hz => ?_, subr_val ho hv (by rw [val_take_succ hk, hx]) hy (by omega)⟩, hold, by omega⟩
  · rw [hr]
    simpa [subTail] using hrow
  · rcases List.mem_append.1 hz with h1 | h1
    · exact hob z h1
    · simp only [List.mem_cons, List.not_mem_nil, or_false] at h1; rw [h1, b6]; omega
theorem ys_here {ys : List Nat} {k : Nat} (h : k < ys.length) : val B6 (ys.take (k + 1)) = val B6 (ys.take k) + B6 ^ k * ys[k] := val_take_succ h
theorem ys_gone {ys : List Nat} {k : Nat} (h : ys.length ≤ k) : val B6 (ys.take (k + 1)) = val B6 (ys.take k) + B6 ^ k * 0 := by
  rw [List.take_of_length_le (by omega), List.take_of_length_le h]; simp
/-- A borrow asks for a further place. -/
theorem sub_more {xs ys os r : List Nat} {k b x y t : Nat} (ho : os.length = k) (hob : ∀ x ∈ os, x < B6) (hv : val B6 os + val B6 (ys.take k) = val B6 (xs.take k) + B6 ^ k * b) (hd : xs.drop k = x :: r) (hk : k < xs.length) (hy : val B6 (ys.take (k + 1)) = val B6 (ys.take k) + B6 ^ k * y) (ht : t + b + y = x + 1000000) (ht1 : t < 1000000) (hle : val B6 ys ≤ val B6 xs) : ∃ x' r', r = x' :: r' := by
  have hx : xs[k] = x := by rw [List.drop_eq_getElem_cons hk] at hd; exact (List.cons.inj hd).1
  cases r with
  | cons x' r' => exact ⟨_, _, rfl⟩
  | nil =>
    have hl : xs.length = k + 1 := by have := congrArg List.length hd; rw [List.length_drop] at this; simp at this; omega
    have := sub_last hl (os := os ++ [t]) (by simp [ho]) (fun z hz => by
      rcases List.mem_append.1 hz with h1 | h1
      · exact hob z h1
      · simp only [List.mem_cons, List.not_mem_nil, or_false] at h1; rw [h1, b6]; exact ht1) (subr_val ho hv (by rw [val_take_succ hk, hx]) hy (b' := 1) (by omega)) hle
    omega

theorem rsub_err (v u : Value) (n m : Nat) (w : World) (hv : RefV w v n) (hu : RefV w u m) (h1 : (digs B6 n).length ≤ 900000) (h2 : (digs B6 m).length ≤ 900000) (hlt : n < m) :
    Calls Tryd.prog 34 #[v, u] w fun e w' => e = .returned (.tuple #[.slice none 0 0, .int .i64 2]) ∧ Below w.heap.size w w' := by
  have HC := hid (rcmp_any v u n m w hv hu h1 h2)
  rw [cmpN_lt hlt] at HC
  clear hv hu h1 h2 hlt
  go_enter Tryd.func34, Tryd.ntmps34
  go_wp2_with (go_at_call 36; refine HC.out.mono ?_; clear HC; rintro e w1 ⟨rfl, hw1⟩)
  go_ret2
  exact ⟨rfl, hw1⟩
set_option maxRecDepth 100000 in
set_option maxHeartbeats 4000000 in
theorem rsub_ok (v u : Value) (n m : Nat) (w : World) (hv : RefV w v n) (hu : RefV w u m) (h1 : (digs B6 n).length ≤ 900000) (h2 : (digs B6 m).length ≤ 900000) (hle : m ≤ n) :
    Calls Tryd.prog 34 #[v, u] w fun e w' => ∃ v', e = .returned (.tuple #[v', .int .i64 0]) ∧ RefV w' v' (n - m) ∧ Below w.heap.size w w' := by
  obtain ⟨i0, hi, hz0, hz1, hz2⟩ := info_parts infoI
  have HC := hid (fun w1 (hb : Below w.heap.size w w1) => rcmp_any v u n m w1 (hv.below hb) (hu.below hb) h1 h2)
  have hcn : ¬ cmpN n m < 0 := by unfold cmpN; rw [if_neg (by omega)]; split <;> omega
  obtain ⟨p, cp, rfl, hpg⟩ := GV.slice hv
  obtain ⟨q, cq, rfl, hqg⟩ := GV.slice hu
  have HPG := hid hpg
  have HQG := hid hqg
  have HXB := hid (digs_lt b6_2 n)
  have HYB := hid (digs_lt b6_2 m)
  have HVN := hid (val_digs b6_2 n)
  have HVM := hid (val_digs b6_2 m)
  obtain ⟨xs, hxs⟩ : ∃ xs, digs B6 n = xs := ⟨_, rfl⟩
  obtain ⟨ys, hys⟩ : ∃ ys, digs B6 m = ys := ⟨_, rfl⟩
  rw [hxs] at HPG HXB HVN HC h1 ⊢
  rw [hys] at HQG HYB HVM HC h2 ⊢
  have HLE := hid (show val B6 ys ≤ val B6 xs by rw [HVN.out, HVM.out]; exact hle)
  have HLEN := hid hle
  obtain ⟨cm, hcm⟩ : ∃ cm, cmpN n m = cm := ⟨_, rfl⟩
  rw [hcm] at hcn HC
  have HYS := hid hys
  clear hv hpg hxs hu hqg hys hle hcm
  go_enter Tryd.func34, Tryd.ntmps34
  go_upto_region 3 with (go_at_call 36; refine (HC.out _ (Below.refl _ _)).mono ?_; clear HC; rintro e w1 ⟨rfl, hw1⟩)
  have hpsrc : xs.length = 0 ∨ ∃ ad, p = some ad ∧ ∀ j u, (xs.map iCell)[j]? = some u → (w1.alloc (.cells #[] 3)).cell? (ad.add j) = some u := by
    by_cases hx0 : xs = []
    · exact .inl (by rw [hx0]; rfl)
    · obtain ⟨g, rfl, hg, _, _⟩ := HPG.out hx0
      refine .inr ⟨_, rfl, fun j u hu => ?_⟩
      have hgb := (hg.below hw1).below ((Below.refl w1.heap.size w1).alloc (Nat.le_refl _) (.cells #[] 3))
      obtain ⟨hi', rfl⟩ := List.getElem?_eq_some_iff.1 hu
      rw [add_at, List.getElem_map]
      exact hgb.at0 j (by simpa using hi')
  go_upto_region 4 with (at_builtin; go_loud (refine wpList_append_two rfl _ _ 27 28 rfl w.heap.size 3 3 i0 _ 8 Tryd.underlying27 Tryd.underlying28 hi hz0 hz1 hz2 rfl _ 0 [] rfl (row_empty w1 3 _ hw1.size) p xs.length cp (xs.map iCell) rfl (by simp) hpsrc (all_i _) (by simp [maxLen]; omega) (by omega) (by have := hw1.size; simp; omega) ?_; intro v' w2 hown hgr; have hb2 := (hw1.alloc hw1.size _).grown hgr (by have := hw1.size; simp; omega) (fun k' hk' => by injection hk' with hk'; subst hk'; exact hw1.size)))
  have hrow0 : RowI w2 w.heap.size v' xs := by
    unfold RowI
    simpa using hown
  have hat0 : SubR w v' xs ys 0 0 w2 := ⟨⟨[], by have := RowZ.of hrow0; rw [List.drop_zero, show ((0 : Nat) : Int) = 0 from rfl, subTail_zero]; exact this, rfl, fun x h => absurd h (List.not_mem_nil), by simp [val]⟩, hb2, by omega⟩
  clear hrow0 hown hgr hb2 hpsrc hw1
  generalize v' = o at hat0 ⊢
  go_wp2_with fail
  go_loopw [7] (fun i wr => ∃ k b : Nat, k ≤ xs.length ∧ i = .int .i64 k ∧ SubR w o xs ys k b wr) (fun i _ => xs.length - (intOf i).toNat)
  case atStart => exact ⟨0, 0, Nat.zero_le _, rfl, hat0⟩
  case round =>
    clear hat0
    obtain ⟨k, b, hk, rfl, hat⟩ := hrel
    generalize wr = W1 at hat ⊢
    by_cases hlt : k < xs.length
    · obtain ⟨os, hrow, hol, hob, hov⟩ := hat.row
      have hold := hat.old
      have hb1 := hat.b1
      have hxb := HXB.out _ (List.getElem_mem hlt)
      obtain ⟨x, hx⟩ : ∃ x, xs[k] = x := ⟨_, rfl⟩
      rw [hx, b6] at hxb
      obtain ⟨r, hr⟩ : ∃ r, xs.drop k = x :: r := ⟨_, by rw [List.drop_eq_getElem_cons hlt, hx]⟩
      have hrl : k + 1 + r.length = xs.length := by have := congrArg List.length hr; rw [List.length_drop, List.length_cons] at this; omega
      have HKEEP := hid (fun (w' : World) (t y : Nat) hy ht hrow' hold' => SubR.keep (w' := w') (t := t) (y := y) hat hol hob hov hr hlt hy ht hxb hrow' hold')
      have HBOR := hid (fun (w' : World) (t y x' : Nat) (r' : List Nat) (e : r = x' :: r') hy ht ht1 hrow' hold' => SubR.bor (w' := w') (t := t) (y := y) hat hol hob hov (hr.trans (by rw [e])) hlt hy ht ht1 hrow' hold')
      have HMORE := hid (fun (t y : Nat) hy ht ht1 => sub_more (t := t) (y := y) hol hob hov hr hlt hy ht ht1 HLE.out)
      have HR3 := hid hr
      rw [hr] at hrow
      obtain ⟨z, hz⟩ : ∃ z : Int, (x : Int) - (b : Int) = z := ⟨_, rfl⟩
      rw [show subTail (b : Int) (x :: r) = ((x : Int) - b) :: r.map (fun x : Nat => (x : Int)) from rfl, hz] at hrow
      have hos : (os.map (fun x : Nat => (x : Int))).length = k := by simpa using hol
      have hlen : ∀ t : Int, (os.map (fun x : Nat => (x : Int)) ++ t :: r.map (fun x : Nat => (x : Int))).length = xs.length := fun t => by rw [List.length_append, hos, List.length_cons, List.length_map]; omega
      clear hat hx hr hob hov
      obtain ⟨g, cap, e0, hg⟩ := hrow.slice (by simp)
      rw [hlen] at e0
      subst e0
      have HZ := hid hz
      have c0 := hrow.at (k := k) (by rw [hlen]; exact hlt)
      rw [at_mid _ _ _ hos] at c0
      have f0 := hrow.free (hlen z).symm
      have hgl := hrow.lt
      clear hz
      have hti : (k : Int) < (xs.length : Int) := by omega
      by_cases hyl : k < ys.length
      · have hyi : (k : Int) < (ys.length : Int) := by omega
        obtain ⟨g', rfl, hg', _, _⟩ := HQG.out (fun e => by subst e; simp at hyl)
        have g1 := (hg'.below hold).at0 k hyl
        have gl' := Nat.lt_of_lt_of_le hg'.lt hold.size
        have hyb := HYB.out _ (List.getElem_mem hyl)
        have HY := hid (ys_here hyl)
        obtain ⟨y, hy⟩ : ∃ y, ys[k] = y := ⟨_, rfl⟩
        rw [hy] at g1 hyb HY
        rw [b6] at hyb
        unfold iCell at g1
        obtain ⟨tz, htz⟩ : ∃ tz : Int, z - (y : Int) = tz := ⟨_, rfl⟩
        have hzb : z ≤ 1000000 ∧ -1 ≤ z := by have := HZ.out; omega
        have hzb1 := hzb.1
        have hzb2 := hzb.2
        have HTZ := hid (show (x : Int) - b - y = tz by rw [HZ.out]; exact htz)
        clear hy hzb
        have HW := hid hrow
        go_upto_region 8 with (fail)
        refine wp_region_staged (fun w' => Below W1.heap.size W1 w') [0, 0, 0, 1, 0, 0, 0, 1, 0, 0, 2] (by kernel_rfl) (by kernel_rfl) (by kernel_rfl) (by exact (Below.refl _ _).drew) ?_
        apply lexF rfl; (· intro _; go_simp; (try go_bits); exact ⟨rfl, rfl⟩); simp only [Act.put, List.setIfInBounds_toArray, List.set_cons_zero, List.set_cons_succ]
        apply lexF rfl; (· intro _; go_simp; (try go_bits); exact ⟨rfl, rfl⟩); simp only [Act.put, List.setIfInBounds_toArray, List.set_cons_zero, List.set_cons_succ]
        apply lexF rfl; (· intro _; go_simp; (try go_bits); exact ⟨rfl, rfl⟩); simp only [Act.put, List.setIfInBounds_toArray, List.set_cons_zero, List.set_cons_succ]
        apply lexH rfl; (· intro w' hw'; have hcc := cellsBelow hw'; go_simp; (try go_bits); exact ⟨rfl, hw'⟩); simp only [Act.put, List.setIfInBounds_toArray, List.set_cons_zero, List.set_cons_succ]
        apply lexF rfl; (· intro _; go_simp; (try go_bits); exact ⟨rfl, rfl⟩); simp only [Act.put, List.setIfInBounds_toArray, List.set_cons_zero, List.set_cons_succ]
        apply lexF rfl; (· intro _; go_simp; (try go_bits); exact ⟨rfl, rfl⟩); simp only [Act.put, List.setIfInBounds_toArray, List.set_cons_zero, List.set_cons_succ]
        apply lexF rfl; (· intro _; go_simp; (try go_bits); exact ⟨rfl, rfl⟩); simp only [Act.put, List.setIfInBounds_toArray, List.set_cons_zero, List.set_cons_succ]
        apply lexH rfl; (· intro w' hw'; have hcc := cellsBelow hw'; go_simp; (try go_bits); exact ⟨rfl, hw'⟩); simp only [Act.put, List.setIfInBounds_toArray, List.set_cons_zero, List.set_cons_succ]
        apply lexF rfl; (· intro _; go_simp; (try go_bits); exact ⟨rfl, rfl⟩); simp only [Act.put, List.setIfInBounds_toArray, List.set_cons_zero, List.set_cons_succ]
        apply lexF rfl; (· intro _; go_simp; (try go_bits); exact ⟨rfl, rfl⟩); simp only [Act.put, List.setIfInBounds_toArray, List.set_cons_zero, List.set_cons_succ]
        apply lexS (fun w' => RowZ w' w.heap.size (.slice (some ⟨g, 0, none⟩) xs.length cap) (os.map (fun x : Nat => (x : Int)) ++ tz :: r.map (fun x : Nat => (x : Int))) ∧ Below w.heap.size w w') rfl
        · intro w' hw'
          have hr' := HW.out.below hw'
          have c1 := hr'.at (k := k) (by rw [hlen]; exact hlt)
          rw [at_mid _ _ _ hos] at c1
          have f1 := hr'.free (hlen z).symm
          go_simp
          refine ⟨rfl, ?_, (hold.trans (hw'.mono hold.size)).setCell (p := ⟨g, k, none⟩) hg _⟩
          have := hr'.set (hlen z).symm k (by rw [hlen]; exact hlt) tz
          rwa [set_mid _ _ _ _ hos] at this
        simp only [Act.put]
        refine lexEnd (fun W5 hw5 => ?_)
        obtain ⟨HR, HB⟩ := hw5
        clear c0 f0 g1 htz
        have c1 := HR.at (k := k) (by rw [hlen]; exact hlt)
        rw [at_mid _ _ _ hos] at c1
        have f1 := HR.free (hlen tz).symm
        have hgl1 := HR.lt
        have hzr := HTZ.out
        by_cases hneg : tz < 0
        · obtain ⟨t, ht⟩ : ∃ t : Nat, tz + 1000000 = (t : Int) := ⟨(tz + 1000000).toNat, by omega⟩
          have htb : t < 1000000 := by omega
          have hte : t + b + y = x + 1000000 := by omega
          obtain ⟨x', r', hre⟩ := HMORE.out t y HY.out hte htb
          have HBO := hid (fun w' => HBOR.out w' t y x' r' hre HY.out hte htb)
          subst hre
          have hx' : (x' : Int) ≤ 1000000 := by
            have h3 := HXB.out x' (by
              have := HR3.out
              rw [← List.take_append_drop k xs, this]; simp)
            rw [b6] at h3
            omega
          clear hzr hte
          go_upto_region 10 with (fail)
          go_upto_region 11 with (fail)
          obtain ⟨W6, hW6, hR6, hB6⟩ : ∃ W6, W6 = W5.setCell ⟨g, k, none⟩ (.int .i64 (t : Int)) ∧ RowZ W6 w.heap.size (.slice (some ⟨g, 0, none⟩) xs.length cap) (os.map (fun x : Nat => (x : Int)) ++ (t : Int) :: (x' : Int) :: r'.map (fun x : Nat => (x : Int))) ∧ Below w.heap.size w W6 := by
            refine ⟨_, rfl, ?_, HB.setCell (p := ⟨g, k, none⟩) hg _⟩
            have := HR.set (hlen tz).symm k (by rw [hlen]; exact hlt) (t : Int)
            rwa [set_mid _ _ _ _ hos] at this
          rw [← hW6]
          clear hW6 c1 f1 hgl1
          have hl6 : (os.map (fun x : Nat => (x : Int)) ++ (t : Int) :: (x' : Int) :: r'.map (fun x : Nat => (x : Int))).length = xs.length := hlen t
          have hk1 : k + 1 < xs.length := by rw [List.length_cons] at hrl; omega
          have c2 := hR6.at (k := k + 1) (by rw [hl6]; exact hk1)
          rw [at_mid1 _ _ _ _ hos] at c2
          have f2 := hR6.free hl6.symm
          have hgl2 := hR6.lt
          have hR7 := hR6.set hl6.symm (k + 1) (by rw [hl6]; exact hk1) ((x' : Int) - 1)
          rw [set_mid1 _ _ _ _ _ hos] at hR7
          have hk1i : (k : Int) + 1 < (xs.length : Int) := by omega
          go_wp2
          go_roundw
          case rel => exact ⟨k + 1, 1, by omega, by go_num, HBO.out _ hR7 (hB6.setCell (p := ⟨g, k + 1, none⟩) hg _)⟩
          case measure => simp [intOf]; omega
        · obtain ⟨t, rfl⟩ : ∃ t : Nat, tz = (t : Int) := ⟨tz.toNat, by omega⟩
          have hK := HKEEP.out W5 t y HY.out (by omega) HR HB
          clear hzr
          go_wp2
          go_roundw
          case rel => exact ⟨k + 1, 0, by omega, by go_num, hK⟩
          case measure => simp [intOf]; omega
      · have hyi : ¬ (k : Int) < (ys.length : Int) := by omega
        have HY := hid (ys_gone (k := k) (ys := ys) (by omega))
        have HTZ := hid (show (x : Int) - b - ((0 : Nat) : Int) = z by rw [HZ.out]; simp)
        have HR := hrow
        have HB := hold
        generalize z = tz at *
        go_upto_region 9 with (fail)
        clear c0 f0 hgl
        have c1 := HR.at (k := k) (by rw [hlen]; exact hlt)
        rw [at_mid _ _ _ hos] at c1
        have f1 := HR.free (hlen tz).symm
        have hgl1 := HR.lt
        have hzr := HTZ.out
        by_cases hneg : tz < 0
        · obtain ⟨t, ht⟩ : ∃ t : Nat, tz + 1000000 = (t : Int) := ⟨(tz + 1000000).toNat, by omega⟩
          have htb : t < 1000000 := by omega
          have hte : t + b + 0 = x + 1000000 := by omega
          obtain ⟨x', r', hre⟩ := HMORE.out t 0 HY.out hte htb
          have HBO := hid (fun w' => HBOR.out w' t 0 x' r' hre HY.out hte htb)
          subst hre
          have hx' : (x' : Int) ≤ 1000000 := by
            have h3 := HXB.out x' (by
              have := HR3.out
              rw [← List.take_append_drop k xs, this]; simp)
            rw [b6] at h3
            omega
          clear hzr hte
          go_upto_region 10 with (fail)
          go_upto_region 11 with (fail)
          obtain ⟨W6, hW6, hR6, hB6⟩ : ∃ W6, W6 = W1.setCell ⟨g, k, none⟩ (.int .i64 (t : Int)) ∧ RowZ W6 w.heap.size (.slice (some ⟨g, 0, none⟩) xs.length cap) (os.map (fun x : Nat => (x : Int)) ++ (t : Int) :: (x' : Int) :: r'.map (fun x : Nat => (x : Int))) ∧ Below w.heap.size w W6 := by
            refine ⟨_, rfl, ?_, HB.setCell (p := ⟨g, k, none⟩) hg _⟩
            have := HR.set (hlen tz).symm k (by rw [hlen]; exact hlt) (t : Int)
            rwa [set_mid _ _ _ _ hos] at this
          rw [← hW6]
          clear hW6 c1 f1 hgl1
          have hl6 : (os.map (fun x : Nat => (x : Int)) ++ (t : Int) :: (x' : Int) :: r'.map (fun x : Nat => (x : Int))).length = xs.length := hlen t
          have hk1 : k + 1 < xs.length := by rw [List.length_cons] at hrl; omega
          have c2 := hR6.at (k := k + 1) (by rw [hl6]; exact hk1)
          rw [at_mid1 _ _ _ _ hos] at c2
          have f2 := hR6.free hl6.symm
          have hgl2 := hR6.lt
          have hR7 := hR6.set hl6.symm (k + 1) (by rw [hl6]; exact hk1) ((x' : Int) - 1)
          rw [set_mid1 _ _ _ _ _ hos] at hR7
          have hk1i : (k : Int) + 1 < (xs.length : Int) := by omega
          go_wp2
          go_roundw
          case rel => exact ⟨k + 1, 1, by omega, by go_num, HBO.out _ hR7 (hB6.setCell (p := ⟨g, k + 1, none⟩) hg _)⟩
          case measure => simp [intOf]; omega
        · obtain ⟨t, rfl⟩ : ∃ t : Nat, tz = (t : Int) := ⟨tz.toNat, by omega⟩
          have hK := HKEEP.out W1 t 0 HY.out (by omega) HR HB
          clear hzr
          go_wp2
          go_roundw
          case rel => exact ⟨k + 1, 0, by omega, by go_num, hK⟩
          case measure => simp [intOf]; omega
    · obtain rfl : k = xs.length := by omega
      obtain ⟨os, hrow, hol, hob, hov⟩ := hat.row
      have hold := hat.old
      have hb0 := sub_last rfl hol hob hov HLE.out
      subst hb0
      rw [List.drop_length] at hrow
      have hri : RowI W1 w.heap.size o os := hrow.to (by simp [subTail])
      have HT := hid (without_any o os W1 hri.gv (by omega))
      have hve : val B6 os = n - m := by
        have h3 : val B6 (ys.take xs.length) = m := by
          rw [← HVM.out]
          by_cases h : xs.length < ys.length
          · exfalso
            have h4 := val_lt b6_2 HXB.out
            rw [HVN.out] at h4
            have h5 := HLEN.out
            have h6 : (digs B6 m).length ≤ xs.length := digs_len_le b6_2 _ _ (by omega)
            rw [HYS.out] at h6
            omega
          · rw [List.take_of_length_le (by omega)]
        rw [h3, List.take_length, HVN.out] at hov
        omega
      rw [← digs_val b6_2 hob, hve] at HT
      obtain ⟨po, co, e0⟩ := row_slice hri
      rw [hol] at e0
      subst e0
      clear hve hov hrow hri hat
      have hti : ¬ (xs.length : Int) < (xs.length : Int) := by omega
      go_wp2_with (go_at_call 47; refine HT.out.mono ?_; clear HT; rintro e w3 ⟨v', rfl, hv', hw3⟩)
      go_ret2
      exact ⟨_, rfl, hv', hold.trans (hw3.mono hold.size)⟩
end Go.Proofs.YtepljhpamconbaaDoor
