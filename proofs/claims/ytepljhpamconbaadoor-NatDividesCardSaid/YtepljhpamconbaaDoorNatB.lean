/- Uint64, Bits, Cmp. -/
import Derived.Test.YtepljhpamconbaaDoorNatA
import Derived.Test.YtepljhpamconbaaDoorShelf
import Derived.Lib.BitFns
import Derived.Laws.BitsAllLaws
namespace Go.Proofs.YtepljhpamconbaaDoor
open Go.RowKit

theorem digs_one {n : Nat} (h0 : n ≠ 0) (h : n < B32) : digs B32 n = [n] := by
  rw [digs_pos b32_2 h0, Nat.mod_eq_of_lt h, Nat.div_eq_of_lt h, digs_zero]
theorem digs_two {n : Nat} (h0 : B32 ≤ n) (h : n < 18446744073709551616) : digs B32 n = [n % B32, n / B32] := by
  have hb := b32
  have h1 : n / B32 ≠ 0 := by have := Nat.div_pos h0 (by omega); omega
  rw [digs_pos b32_2 (by omega), digs_one h1 (Nat.div_lt_of_lt_mul (by rw [hb]; omega))]
theorem digs_three {n : Nat} (h : 18446744073709551616 ≤ n) : 3 ≤ (digs B32 n).length := digs_len_ge b32_2 2 n (by rw [b32]; omega)

/-- What Uint64 returns. -/
def u64V (n : Nat) : Value := .tuple #[.int .u64 (if n < 18446744073709551616 then (n : Int) else 0), .bool (decide (n < 18446744073709551616))]
theorem u64_or (n : Nat) (h : n < 18446744073709551616) : bits BinOp.or IntKind.u64 (((n / B32 : Nat) : Int) * 4294967296) ((n % B32 : Nat) : Int) = (n : Int) := by
  have hb := b32
  have h1 : n % B32 < 2 ^ 32 := by have := Nat.mod_lt n (show 0 < B32 by omega); omega
  have h2 : n / B32 < 4294967296 := Nat.div_lt_of_lt_mul (by rw [hb]; omega)
  have e1 : ((n / B32 : Nat) : Int) * 4294967296 = ((n / B32 * 4294967296 : Nat) : Int) := by omega
  rw [e1, u64_or_nat _ _ (by omega) (by omega)]
  have e2 : n / B32 * 4294967296 = 2 ^ 32 * (n / B32) := by omega
  rw [e2, ← Nat.two_pow_add_eq_or_of_lt h1]
  have := Nat.mod_add_div n B32
  rw [hb] at this ⊢
  omega

set_option maxRecDepth 100000 in
set_option maxHeartbeats 1000000 in
theorem uint64_any (v : Value) (n : Nat) (w : World) (hv : NatV w v n) :
    Calls Tryd.prog 26 #[v] w fun e w' => e = .returned (u64V n) ∧ Below w.heap.size w w' := by
  rcases hv with ⟨rfl, rfl⟩ | ⟨h0, g, c, rfl, hd, _⟩
  · go_enter Tryd.func26, Tryd.ntmps26
    go_wp2
    go_ret2
    exact ⟨rfl, (Below.refl _ _).alloc (Nat.le_refl _) _⟩
  · have hgl := hd.lt
    by_cases h1 : n < B32
    · have hl := digs_one h0 h1
      have HE := hid (show u64V n = .tuple #[.int .u64 (n : Int), .bool true] by have := b32; unfold u64V; rw [if_pos (by omega), decide_eq_true (by omega)])
      rw [hl] at hd ⊢
      have g0 := hd.at0 0 (by simp)
      simp only [List.getElem_cons_zero] at g0
      have q := b32
      have q1 : (n : Int) < 4294967296 := by omega
      clear hd hl h0 h1 q
      go_enter Tryd.func26, Tryd.ntmps26
      go_wp2
      go_ret2
      exact ⟨by rw [HE.out]; rfl, (Below.refl _ _).alloc (Nat.le_refl _) _⟩
    · by_cases h2 : n < 18446744073709551616
      · have hl := digs_two (by omega) h2
        have HE := hid (show u64V n = .tuple #[.int .u64 (n : Int), .bool true] by unfold u64V; rw [if_pos h2, decide_eq_true h2])
        rw [hl] at hd ⊢
        have g0 := hd.at0 0 (by simp)
        have g1 := hd.at0 1 (by simp)
        simp only [List.getElem_cons_zero, List.getElem_cons_succ] at g0 g1
        have hor := hid (u64_or n h2)
        have hb := b32
        have q1 : n / B32 < 4294967296 := Nat.div_lt_of_lt_mul (by rw [hb]; omega)
        have q2 : n % B32 < 4294967296 := by have := Nat.mod_lt n (show 0 < B32 by omega); omega
        obtain ⟨hi, hhi⟩ : ∃ x, n / B32 = x := ⟨_, rfl⟩
        obtain ⟨lo, hlo⟩ : ∃ x, n % B32 = x := ⟨_, rfl⟩
        rw [hhi] at q1 g1 hor ⊢
        rw [hlo] at q2 g0 hor ⊢
        clear hd hl h0 h1 h2 hb hhi hlo
        go_enter Tryd.func26, Tryd.ntmps26
        go_upto_region 7 with (fail)
        obtain ⟨W1, hW1, hsz, kB, hWb⟩ := box1_head (.slice (some ⟨g, 0, none⟩) 2 c) 26 w
        have g0' := (hWb.cell (p := ⟨g, 0, none⟩) hgl).trans g0
        have g1' := (hWb.cell (p := ⟨g, 1, none⟩) hgl).trans g1
        have hb1 : w.heap.size < W1.heap.size := by omega
        have hb2 : g < W1.heap.size := by omega
        have d0 := cell_box1 kB
        rw [← hW1]
        clear hW1 g0 g1 hsz
        refine wp_region_staged (fun w' => Below W1.heap.size W1 w') [0, 1, 0, 1, 0, 0, 0, 1, 0, 1, 0, 0, 0, 0] (by kernel_rfl) (by kernel_rfl) (by kernel_rfl) (by exact (Below.refl _ _).drew) ?_
        apply lexF rfl; (· intro _; go_simp; (try go_bits); exact ⟨rfl, rfl⟩); simp only [Act.put, List.setIfInBounds_toArray, List.set_cons_zero, List.set_cons_succ]
        apply lexH rfl; (· intro w' hw'; have hcc := cellsBelow hw'; go_simp; (try go_bits); exact ⟨rfl, hw'⟩); simp only [Act.put, List.setIfInBounds_toArray, List.set_cons_zero, List.set_cons_succ]
        apply lexF rfl; (· intro _; go_simp; (try go_bits); exact ⟨rfl, rfl⟩); simp only [Act.put, List.setIfInBounds_toArray, List.set_cons_zero, List.set_cons_succ]
        apply lexH rfl; (· intro w' hw'; have hcc := cellsBelow hw'; go_simp; (try go_bits); exact ⟨rfl, hw'⟩); simp only [Act.put, List.setIfInBounds_toArray, List.set_cons_zero, List.set_cons_succ]
        apply lexF rfl; (· intro _; go_simp; (try go_bits); exact ⟨rfl, rfl⟩); simp only [Act.put, List.setIfInBounds_toArray, List.set_cons_zero, List.set_cons_succ]
        apply lexF rfl; (· intro _; go_simp; (try go_bits); exact ⟨rfl, rfl⟩); simp only [Act.put, List.setIfInBounds_toArray, List.set_cons_zero, List.set_cons_succ]
        apply lexF rfl; (· intro _; go_simp; (try go_bits); exact ⟨rfl, rfl⟩); simp only [Act.put, List.setIfInBounds_toArray, List.set_cons_zero, List.set_cons_succ]
        apply lexH rfl; (· intro w' hw'; have hcc := cellsBelow hw'; go_simp; (try go_bits); exact ⟨rfl, hw'⟩); simp only [Act.put, List.setIfInBounds_toArray, List.set_cons_zero, List.set_cons_succ]
        apply lexF rfl; (· intro _; go_simp; (try go_bits); exact ⟨rfl, rfl⟩); simp only [Act.put, List.setIfInBounds_toArray, List.set_cons_zero, List.set_cons_succ]
        apply lexH rfl; (· intro w' hw'; have hcc := cellsBelow hw'; go_simp; (try go_bits); exact ⟨rfl, hw'⟩); simp only [Act.put, List.setIfInBounds_toArray, List.set_cons_zero, List.set_cons_succ]
        apply lexF rfl; (· intro _; go_simp; (try go_bits); exact ⟨rfl, rfl⟩); simp only [Act.put, List.setIfInBounds_toArray, List.set_cons_zero, List.set_cons_succ]
        apply lexF rfl; (· intro _; go_simp; (try go_bits); exact ⟨rfl, rfl⟩); simp only [Act.put, List.setIfInBounds_toArray, List.set_cons_zero, List.set_cons_succ]
        apply lexF rfl; (· intro _; go_simp; (try go_bits); exact ⟨rfl, rfl⟩); simp only [Act.put, List.setIfInBounds_toArray, List.set_cons_zero, List.set_cons_succ]
        apply lexF rfl; (· intro _; go_simp; (try go_bits); exact ⟨rfl, rfl⟩); simp only [Act.put, List.setIfInBounds_toArray, List.set_cons_zero, List.set_cons_succ]
        refine lexEnd (fun w2 hw2 => ?_)
        go_wp2
        rw [hor.out]
        go_ret2
        exact ⟨by rw [HE.out]; rfl, hWb.trans (hw2.mono (by omega))⟩
      · have hl := digs_three (Nat.le_of_not_lt h2)
        have HE := hid (show u64V n = .tuple #[.int .u64 0, .bool false] by unfold u64V; rw [if_neg h2, decide_eq_false h2])
        obtain ⟨l, hl2⟩ : ∃ l, (digs B32 n).length = l := ⟨_, rfl⟩
        rw [hl2] at hl ⊢
        have q0 : ((l : Int) == 0) = false := by rw [beq_eq_false_iff_ne]; omega
        have q1 : ((l : Int) == 1) = false := by rw [beq_eq_false_iff_ne]; omega
        have q2 : ((l : Int) == 2) = false := by rw [beq_eq_false_iff_ne]; omega
        clear hd h0 h1 h2 hl2
        go_enter Tryd.func26, Tryd.ntmps26
        go_wp2
        go_ret2
        exact ⟨by rw [HE.out]; rfl, (Below.refl _ _).alloc (Nat.le_refl _) _⟩

/-! ### Bits -/
/-- How many binary digits. -/
def bitsN (n : Nat) : Nat := if h : n = 0 then 0 else bitsN (n / 2) + 1
termination_by n
decreasing_by omega
theorem bitsN_zero : bitsN 0 = 0 := by rw [bitsN]; simp
theorem bitsN_pos {n : Nat} (h : n ≠ 0) : bitsN n = bitsN (n / 2) + 1 := by rw [bitsN, dif_neg h]
theorem bitsN_shift (t : Nat) (r : Nat) (ht : t ≠ 0) (k : Nat) : r < 2 ^ k → bitsN (r + 2 ^ k * t) = k + bitsN t := by
  induction k generalizing r with
  | zero =>
    intro h
    have h1 : r = 0 := by simpa using h
    rw [h1]; simp
  | succ k ih =>
    intro h
    have hp : 0 < 2 ^ (k + 1) * t := Nat.mul_pos (Nat.two_pow_pos _) (by omega)
    have e : (r + 2 ^ (k + 1) * t) / 2 = r / 2 + 2 ^ k * t := by rw [Nat.pow_succ, Nat.mul_right_comm]; omega
    rw [bitsN_pos (by omega), e, ih (r / 2) (by rw [Nat.pow_succ] at h; omega)]
    omega
theorem bitLen_bits (f x : Nat) (h : x < 2 ^ f) : Lib.bitLenAux f x = bitsN x := by
  induction f generalizing x with
  | zero =>
    have h1 : x = 0 := by simpa using h
    rw [h1, bitsN_zero]; rfl
  | succ f ih =>
    unfold Lib.bitLenAux
    by_cases hx : x = 0
    · subst hx; rw [bitsN_zero]; simp
    · rw [if_neg hx, bitsN_pos hx, ih (x / 2) (by rw [Nat.pow_succ] at h; omega)]; omega
/-- The bits of a number from its highest digit. -/
theorem bits_top {n : Nat} {k : Nat} (hk : k + 1 = (digs B32 n).length) (hlt : k < (digs B32 n).length) : bitsN n = 32 * k + Lib.bitLen ((digs B32 n)[k]) := by
  have hb := b32
  have hd := dig_lt n hlt
  have e1 : Lib.bitLen ((digs B32 n)[k]) = bitsN ((digs B32 n)[k]) := bitLen_bits 64 _ (by omega)
  have hne : (digs B32 n)[k] ≠ 0 := by
    intro hz
    have h1 := trim_take_zero (ds := digs B32 n) (k := k) (by omega) hz
    rw [show (digs B32 n).take (k + 1) = digs B32 n by rw [hk]; exact List.take_length] at h1
    have h2 : trimD (digs B32 n) = digs B32 n := by
      have := digs_val b32_2 (digs_lt b32_2 n)
      rw [val_digs b32_2] at this; exact this.symm
    rw [h2] at h1
    have h3 : (digs B32 n).length ≤ k := by
      rw [h1]
      have : ∀ l : List Nat, (trimD l).length ≤ l.length := fun l => by
        induction l with
        | nil => simp [trimD]
        | cons x l ih => unfold trimD; split <;> simp only [List.length_cons, List.length_nil] <;> omega
      exact Nat.le_trans (this _) (by rw [List.length_take]; omega)
    omega
  have e2 := val_take_drop (B := B32) (digs B32 n) k (by omega)
  rw [val_digs b32_2, List.drop_eq_getElem_cons hlt, List.drop_eq_nil_of_le (by omega)] at e2
  simp only [val, Nat.mul_zero, Nat.add_zero] at e2
  have h4 : val B32 ((digs B32 n).take k) < B32 ^ k := by
    have := val_lt b32_2 (l := (digs B32 n).take k) (fun d hd => digs_lt b32_2 n d (List.mem_of_mem_take hd))
    rwa [List.length_take, Nat.min_eq_left (by omega)] at this
  have e3 : B32 ^ k = 2 ^ (32 * k) := by rw [hb, Nat.pow_mul]
  rw [e3] at e2 h4
  rw [e1, ← bitsN_shift _ _ hne (32 * k) h4, ← e2]

set_option maxHeartbeats 1000000 in
theorem bits_any (v : Value) (n : Nat) (w : World) (hv : NatV w v n) (hl : (digs B32 n).length ≤ 1000000) :
    Calls Tryd.prog 30 #[v] w fun e w' => e = .returned (.int .i64 ((bitsN n : Nat) : Int)) ∧ Below w.heap.size w w' := by
  rcases hv with ⟨rfl, rfl⟩ | ⟨h0, g, c, rfl, hd, _⟩
  · have HB := hid bitsN_zero
    go_enter Tryd.func30, Tryd.ntmps30
    go_wp2
    go_ret
    exact ⟨by rw [HB.out]; rfl, (Below.refl _ _).alloc (Nat.le_refl _) _⟩
  · have hgl := hd.lt
    have hpos : 0 < (digs B32 n).length := List.length_pos_iff.2 (digs_last_ne h0)
    obtain ⟨k, hk⟩ : ∃ k, k + 1 = (digs B32 n).length := ⟨(digs B32 n).length - 1, by omega⟩
    have hlt : k < (digs B32 n).length := by omega
    have HT := hid (bits_top hk hlt)
    have g0 := hd.at0 k hlt
    have hq := dig_lt n hlt
    obtain ⟨d, hdd⟩ : ∃ d, (digs B32 n)[k] = d := ⟨_, rfl⟩
    rw [hdd] at g0 hq HT
    rw [← hk] at hl ⊢
    have hbl : Lib.bitLen d ≤ 64 := by
      have : ∀ f x, Lib.bitLenAux f x ≤ f := fun f => by
        induction f with
        | zero => intro x; simp [Lib.bitLenAux]
        | succ f ih => intro x; unfold Lib.bitLenAux; split; omega; have := ih (x / 2); omega
      exact this 64 d
    have hz : (((k + 1 : Nat) : Int) == 0) = false := by rw [beq_eq_false_iff_ne]; omega
    have HL := hid (fun (w1 : World) => Tryd.bits_Len32 (d : Int) w1 (by omega) (by omega))
    clear hd h0 hk hlt hdd hpos
    go_enter Tryd.func30, Tryd.ntmps30
    go_wp2_with (go_at_call 52; refine (HL.out _).mono ?_; rintro e w' ⟨rfl, rfl⟩; rw [Int.toNat_natCast])
    go_ret
    exact ⟨ret_int (by rw [HT.out]; omega), (Below.refl _ _).alloc (Nat.le_refl _) _⟩

end Go.Proofs.YtepljhpamconbaaDoor
