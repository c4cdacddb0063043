/- The reference: carried, times, Of. -/
import Derived.Test.YtepljhpamconbaaDoorNatRB
namespace Go.Proofs.YtepljhpamconbaaDoor
open Go.RowKit

theorem RowI.nil (W : World) (base : Nat) : RowI W base (.slice none 0 0) [] := ⟨rfl, .inl ⟨rfl, rfl⟩⟩
theorem RowI.below {W W' : World} {base : Nat} {v : Value} {xs : List Nat} (h : RowI W base v xs) (hb : Below W.heap.size W W') : RowI W' base v xs := row_kept_low h hb
theorem RowI.push {W : World} {base n : Nat} {v : Value} {os : List Nat} {x : Nat} (h : W.ownsRow base 3 1 v (n + 1) (os.map iCell ++ [iCell x])) (hn : n = os.length) : RowI W base v (os ++ [x]) := by
  subst hn
  unfold RowI
  rw [List.length_append, List.length_singleton, List.map_append]; exact h
/-- The state of carried's loop: i groups are out, c is carried. -/
structure CarAt (W0 : World) (xs : List Nat) (v : Value) (i c : Nat) (wr : World) : Prop where
  row : ∃ os, RowI wr W0.heap.size v os ∧ os.length = i ∧ (∀ x ∈ os, x < B6) ∧ val B6 os + B6 ^ i * c = val B6 (xs.take i)
  old : Below W0.heap.size W0 wr
  cb : c ≤ 100000000000000000
  ib : i ≤ xs.length ∨ c * B6 ^ (i - xs.length) ≤ 100000000000000000
  lb : i ≤ xs.length + 3
theorem CarAt.short {W0 wr : World} {xs : List Nat} {v : Value} {i c : Nat} (h : CarAt W0 xs v i c wr) (hg : i < xs.length ∨ 0 < c) : i ≤ xs.length + 2 := by
  rcases hg with hg | hg
  · omega
  · rcases h.ib with h1 | h1
    · omega
    · refine Nat.le_of_not_lt fun hlt => ?_
      have h2 : B6 ^ 3 ≤ B6 ^ (i - xs.length) := Nat.pow_le_pow_right (by decide) (by omega)
      have h3 : 1 * B6 ^ (i - xs.length) ≤ c * B6 ^ (i - xs.length) := Nat.mul_le_mul_right _ hg
      have h4 : B6 ^ 3 = 1000000000000000000 := by decide
      omega
theorem car_val {xs os : List Nat} {i c x : Nat} (hv : val B6 os + B6 ^ i * c = val B6 (xs.take i)) (ho : os.length = i) (hx : val B6 (xs.take (i + 1)) = val B6 (xs.take i) + B6 ^ i * x) :
    val B6 (os ++ [(c + x) % 1000000]) + B6 ^ (i + 1) * ((c + x) / 1000000) = val B6 (xs.take (i + 1)) := by
  rw [val_snoc, hx, ho, Nat.pow_succ, Nat.mul_assoc]
  generalize B6 ^ i = p at *
  have e2 : p * ((c + x) % 1000000) + p * (B6 * ((c + x) / 1000000)) = p * c + p * x := by
    rw [← Nat.mul_add, b6, Nat.mod_add_div, Nat.mul_add]
  omega
theorem CarAt.step {W0 wr w' : World} {xs os : List Nat} {v v' : Value} {i c x : Nat} (h : CarAt W0 xs v i c wr) (hr : RowI wr W0.heap.size v os) (ho : os.length = i) (hb : ∀ x ∈ os, x < B6) (hv : val B6 os + B6 ^ i * c = val B6 (xs.take i))
    (hx : val B6 (xs.take (i + 1)) = val B6 (xs.take i) + B6 ^ i * x) (hxb : x ≤ 100000000000000000) (hx0 : xs.length ≤ i → x = 0) (hsh : i ≤ xs.length + 2) (hown : RowI w' W0.heap.size v' (os ++ [(c + x) % 1000000])) (hold : Below W0.heap.size W0 w') :
    CarAt W0 xs v' (i + 1) ((c + x) / 1000000) w' := by
  have hcb := h.cb
  refine ⟨⟨_, hown, by simp [ho], ?_, car_val hv ho hx⟩, hold, by omega, ?_, by omega⟩
  · intro y hy
    rcases List.mem_append.1 hy with h1 | h1
    · exact hb y h1
    · simp only [List.mem_cons, List.not_mem_nil, or_false] at h1; rw [h1, b6]; omega
  · by_cases hi : i < xs.length
    · exact .inl hi
    · refine .inr ?_
      rw [hx0 (by omega), Nat.add_zero]
      rcases h.ib with h1 | h1
      · have : i = xs.length := by omega
        subst this
        rw [show xs.length + 1 - xs.length = 1 by omega, Nat.pow_one, b6]
        omega
      · rw [show i + 1 - xs.length = (i - xs.length) + 1 by omega, Nat.pow_succ, Nat.mul_comm (B6 ^ _), ← Nat.mul_assoc]
        refine Nat.le_trans (Nat.mul_le_mul_right _ ?_) h1
        rw [b6]; omega

set_option maxRecDepth 100000 in
set_option maxHeartbeats 2000000 in
theorem carried_any (v : Value) (xs : List Nat) (w : World) (hv : GV w v xs) (hl : xs.length ≤ 900000) (hxb : ∀ x ∈ xs, x ≤ 100000000000000000) :
    Calls Tryd.prog 48 #[v] w fun e w' => ∃ v', e = .returned v' ∧ RefV w' v' (val B6 xs) ∧ Below w.heap.size w w' := by
  obtain ⟨i0, hi, hz0, hz1, hz2⟩ := info_parts infoI
  obtain ⟨p, cp, rfl, hpg⟩ := hv.slice
  have HXB := hid hxb
  have HPG := hid hpg
  clear hv hxb hpg
  have hat0 : CarAt w xs (.slice none 0 0) 0 0 w := ⟨⟨[], RowI.nil w _, rfl, fun x h => absurd h (List.not_mem_nil), by simp [val]⟩, Below.refl _ _, by omega, .inl (Nat.zero_le _), by omega⟩
  go_enter Tryd.func48, Tryd.ntmps48
  go_wp2_with fail
  go_loopw [3, 4, 5] (fun o c i wr => ∃ k cn : Nat, i = .int .i64 k ∧ c = .int .i64 (cn : Int) ∧ CarAt w xs o k cn wr) (fun _ c i _ => (xs.length - (intOf i).toNat) * 1000000000000000000 + (intOf c).toNat)
  case atStart => exact ⟨0, 0, rfl, rfl, hat0⟩
  case round =>
    clear hat0
    obtain ⟨k, c, rfl, rfl, hat⟩ := hrel
    generalize wr = W1 at hat ⊢
    generalize u3 = o at hat ⊢
    obtain ⟨os, hrow, hol, hob, hov⟩ := hat.row
    have hold := hat.old
    have hcb := hat.cb
    by_cases hlt : k < xs.length
    · obtain ⟨g, rfl, hg, _, _⟩ := HPG.out (fun e => by subst e; simp at hlt)
      have hg1 := (hg.below hold).at0 k hlt
      have hgl := Nat.lt_of_lt_of_le hg.lt hold.size
      have hxk := HXB.out _ (List.getElem_mem hlt)
      obtain ⟨x, hx⟩ : ∃ x, xs[k] = x := ⟨_, rfl⟩
      have hsh := hat.short (.inl hlt)
      have HS := hid (fun v' w' => hat.step (w' := w') (v' := v') hrow hol hob hov (by rw [val_take_succ hlt, hx]) (hx ▸ hxk) (fun h => absurd hlt (by omega)) hsh)
      rw [hx] at hg1 hxk
      unfold iCell at hg1
      have hti : (k : Int) < (xs.length : Int) := by omega
      obtain ⟨t, ht, ht2⟩ : ∃ t : Nat, c + x = t ∧ (c : Int) + (x : Int) = (t : Int) := ⟨_, rfl, by simp only [Int.natCast_add]⟩
      have htb : t ≤ 200000000000000000 := by omega
      rw [ht] at HS
      clear hx ht hat hov
      go_wp2_with (at_builtin; go_loud (refine wpList_append_own _ rfl _ _ 27 rfl w.heap.size 3 i0 _ 1 8 Tryd.underlying27 hi hz0 hz1 hz2 rfl (by decide) _ _ _ rfl (hrow.alloc _) ⟨W1.heap.size, 0, none⟩ 1 1 [iCell (t % 1000000)] rfl rfl (cells1_new W1 _ _) (one_i _) (by simp [maxLen]; omega) (by omega) (by have := hold.size; simp; omega) ?_; intro v' w7 hown' hgrow _; have hb7 := row1_step hold hrow (Nat.le_refl _) hold.size hgrow; have hat7 := HS.out v' w7 (RowI.push hown' rfl) hb7))
      go_roundw
      case rel => exact ⟨k + 1, t / 1000000, by go_num, rfl, hat7⟩
      case measure => simp [intOf]; omega
    · have hge : ¬ (k : Int) < (xs.length : Int) := by omega
      by_cases hc0 : c = 0
      · subst hc0
        rw [Nat.mul_zero, Nat.add_zero, List.take_of_length_le (by omega)] at hov
        have HT := hid (without_any o os W1 hrow.gv (by have := hat.lb; omega))
        rw [← digs_val b6_2 hob, hov] at HT
        go_wp2_with (go_at_call 47; refine HT.out.mono ?_; clear HT; rintro e w3 ⟨v', rfl, hv', hw3⟩)
        go_ret
        exact ⟨_, rfl, hv', hold.trans (hw3.mono hold.size)⟩
      · have hcg : (0 : Int) < (c : Int) := by omega
        have hsh := hat.short (.inr (by omega))
        have HS := hid (fun v' w' => hat.step (w' := w') (v' := v') (x := 0) hrow hol hob hov (by rw [List.take_of_length_le (by omega), List.take_of_length_le (by omega)]; simp) (by omega) (fun _ => rfl) hsh)
        rw [Nat.add_zero] at HS
        clear hat hov
        go_wp2_with (at_builtin; go_loud (refine wpList_append_own _ rfl _ _ 27 rfl w.heap.size 3 i0 _ 1 8 Tryd.underlying27 hi hz0 hz1 hz2 rfl (by decide) _ _ _ rfl (hrow.alloc _) ⟨W1.heap.size, 0, none⟩ 1 1 [iCell (c % 1000000)] rfl rfl (cells1_new W1 _ _) (one_i _) (by simp [maxLen]; omega) (by omega) (by have := hold.size; simp; omega) ?_; intro v' w7 hown' hgrow _; have hb7 := row1_step hold hrow (Nat.le_refl _) hold.size hgrow; have hat7 := HS.out v' w7 (RowI.push hown' rfl) hb7))
        go_roundw
        case rel => exact ⟨k + 1, c / 1000000, by go_num, rfl, hat7⟩
        case measure => simp [intOf]; omega

theorem val_map_mul (m : Nat) (xs : List Nat) : val B6 (xs.map fun x => x * m) = val B6 xs * m := by
  induction xs with
  | nil => simp [val]
  | cons x xs ih => simp only [List.map_cons, val, ih]; rw [Nat.add_mul, Nat.mul_assoc]
set_option maxRecDepth 100000 in
set_option maxHeartbeats 2000000 in
theorem times_any (v : Value) (n m : Nat) (w : World) (hv : RefV w v n) (hl : (digs B6 n).length ≤ 900000) (hm : m ≤ 4294967296) :
    Calls Tryd.prog 51 #[v, .int .i64 (m : Int)] w fun e w' => ∃ v', e = .returned v' ∧ RefV w' v' (n * m) ∧ Below w.heap.size w w' := by
  obtain ⟨i0, hi, hz0, hz1, hz2⟩ := info_parts infoI
  obtain ⟨p, cp, rfl, hpg⟩ := GV.slice hv
  have HPG := hid hpg
  have HXB := hid (digs_lt b6_2 n)
  have HV := hid (show val B6 ((digs B6 n).map fun x => x * m) = n * m by rw [val_map_mul, val_digs b6_2])
  obtain ⟨xs, hxs⟩ : ∃ xs, digs B6 n = xs := ⟨_, rfl⟩
  rw [hxs] at HPG HXB HV hl ⊢
  clear hv hpg hxs
  have hrow0 : RowI w w.heap.size (.slice none 0 0) ((xs.take 0).map fun x => x * m) := RowI.nil w _
  go_enter Tryd.func51, Tryd.ntmps51
  go_wp2_with fail
  go_loopw [5, 6] (fun o i wr => ∃ k : Nat, k ≤ xs.length ∧ i = .int .i64 k ∧ RowI wr w.heap.size o ((xs.take k).map fun x => x * m) ∧ Below w.heap.size w wr) (fun _ i _ => xs.length - (intOf i).toNat)
  case atStart => exact ⟨0, Nat.zero_le _, rfl, hrow0, Below.refl _ _⟩
  case round =>
    clear hrow0
    obtain ⟨k, hk, rfl, hrow, hold⟩ := hrel
    generalize wr = W1 at hrow hold ⊢
    generalize u5 = o at hrow ⊢
    by_cases hlt : k < xs.length
    · obtain ⟨g, rfl, hg, _, _⟩ := HPG.out (fun e => by subst e; simp at hlt)
      have hg1 := (hg.below hold).at0 k hlt
      have hgl := Nat.lt_of_lt_of_le hg.lt hold.size
      have hxk := HXB.out _ (List.getElem_mem hlt)
      have HN := hid (show ((xs.take k).map fun x => x * m) ++ [xs[k] * m] = (xs.take (k + 1)).map fun x => x * m by rw [List.take_succ_eq_append_getElem hlt, List.map_append]; rfl)
      obtain ⟨x, hx⟩ : ∃ x, xs[k] = x := ⟨_, rfl⟩
      rw [hx] at hg1 hxk HN
      unfold iCell at hg1
      rw [b6] at hxk
      have hti : (k : Int) < (xs.length : Int) := by omega
      have hmb : x * m ≤ 1000000 * 4294967296 := Nat.mul_le_mul (by omega) hm
      obtain ⟨t, ht, ht2⟩ : ∃ t : Nat, x * m = t ∧ (x : Int) * (m : Int) = (t : Int) := ⟨_, rfl, by simp only [Int.natCast_mul]⟩
      rw [ht] at HN hmb
      have hln : ((xs.take k).map fun x => x * m).length = k := by simp; omega
      clear hx ht
      go_wp2_with (at_builtin; go_loud (refine wpList_append_own _ rfl _ _ 27 rfl w.heap.size 3 i0 _ 1 8 Tryd.underlying27 hi hz0 hz1 hz2 rfl (by decide) _ _ _ rfl (hrow.alloc _) ⟨W1.heap.size, 0, none⟩ 1 1 [iCell t] rfl rfl (cells1_new W1 _ _) (one_i _) (by rw [hln]; simp [maxLen]; omega) (by rw [hln]; omega) (by have := hold.size; simp; omega) ?_; intro v' w7 hown' hgrow _; have hb7 := row1_step hold hrow (Nat.le_refl _) hold.size hgrow; have hr7 := RowI.push hown' rfl; rw [HN.out] at hr7))
      go_roundw
      case rel => exact ⟨k + 1, by omega, by go_num, hr7, hb7⟩
      case measure => simp [intOf]; omega
    · obtain rfl : k = xs.length := by omega
      rw [List.take_length] at hrow
      have HT := hid (carried_any o _ W1 hrow.gv (by simpa using hl) (by
        intro y hy
        obtain ⟨x, hx, rfl⟩ := List.mem_map.1 hy
        have h1 := HXB.out x hx
        rw [b6] at h1
        have : x * m ≤ 1000000 * 4294967296 := Nat.mul_le_mul (by omega) hm
        omega))
      rw [HV.out] at HT
      go_wp2_with (go_at_call 48; refine HT.out.mono ?_; clear HT; rintro e w3 ⟨v', rfl, hv', hw3⟩)
      go_ret
      exact ⟨_, rfl, hv', hold.trans (hw3.mono hold.size)⟩

set_option maxRecDepth 100000 in
set_option maxHeartbeats 2000000 in
theorem rof_any (n : Nat) (w : World) (hn : n < 18446744073709551616) :
    Calls Tryd.prog 29 #[.int .u64 (n : Int)] w fun e w' => ∃ v', e = .returned v' ∧ RefV w' v' n ∧ Below w.heap.size w w' := by
  obtain ⟨i0, hi, hz0, hz1, hz2⟩ := info_parts infoI
  go_enter Tryd.func29, Tryd.ntmps29
  go_wp2_with fail
  go_loopw [0, 3] (fun nv o wr => ∃ (m : Nat) (os : List Nat), nv = .int .u64 (m : Int) ∧ m < 18446744073709551616 ∧ RowI wr w.heap.size o os ∧ RowKit.Hid ((∀ x ∈ os, x < B6) ∧ val B6 os + B6 ^ os.length * m = n) ∧ os.length ≤ 4 ∧ (0 < m → os.length ≤ 3) ∧ Below w.heap.size w wr) (fun nv _ _ => (intOf nv).toNat)
  case atStart => exact ⟨n, [], rfl, hn, RowI.nil w _, hid ⟨fun x h => absurd h (List.not_mem_nil), by simp [val]⟩, by simp, by simp, Below.refl _ _⟩
  case round =>
    obtain ⟨m, os, rfl, hm, hrow, HI, h4, h3, hold⟩ := hrel
    generalize wr = W1 at hrow hold ⊢
    generalize u3 = o at hrow ⊢
    by_cases hm0 : m = 0
    · subst hm0
      have hov := HI.out.2
      rw [Nat.mul_zero, Nat.add_zero] at hov
      have HT := hid (without_any o os W1 hrow.gv (by omega))
      rw [← digs_val b6_2 HI.out.1, hov] at HT
      go_wp2_with (go_at_call 47; refine HT.out.mono ?_; clear HT; rintro e w3 ⟨v', rfl, hv', hw3⟩)
      go_ret
      exact ⟨_, rfl, hv', hold.trans (hw3.mono hold.size)⟩
    · have hmp : (0 : Int) < (m : Int) := by omega
      have h3' := h3 (by omega)
      have HN := hid (show (∀ x ∈ os ++ [m % 1000000], x < B6) ∧ val B6 (os ++ [m % 1000000]) + B6 ^ (os ++ [m % 1000000]).length * (m / 1000000) = n by
        refine ⟨fun y hy => ?_, ?_⟩
        · rcases List.mem_append.1 hy with h1 | h1
          · exact HI.out.1 y h1
          · simp only [List.mem_cons, List.not_mem_nil, or_false] at h1; rw [h1, b6]; omega
        · rw [val_snoc, List.length_append, List.length_singleton, Nat.pow_succ, Nat.mul_assoc, ← HI.out.2, Nat.add_assoc, ← Nat.mul_add, b6, Nat.mod_add_div])
      have hlast : 0 < m / 1000000 → (os ++ [m % 1000000]).length ≤ 3 := fun h => by
        have h1 := HI.out.2
        refine Nat.le_of_not_lt fun hlt => ?_
        rw [List.length_append, List.length_singleton] at hlt
        have h5 : os.length = 3 := by omega
        rw [h5, show B6 ^ 3 = 1000000000000000000 by decide] at h1
        omega
      go_wp2_with (at_builtin; go_loud (refine wpList_append_own _ rfl _ _ 27 rfl w.heap.size 3 i0 _ 1 8 Tryd.underlying27 hi hz0 hz1 hz2 rfl (by decide) _ _ _ rfl (hrow.alloc _) ⟨W1.heap.size, 0, none⟩ 1 1 [iCell (m % 1000000)] rfl rfl (cells1_new W1 _ _) (one_i _) (by simp [maxLen]; omega) (by omega) (by have := hold.size; simp; omega) ?_; intro v' w7 hown' hgrow _; have hb7 := row1_step hold hrow (Nat.le_refl _) hold.size hgrow; have hr7 := RowI.push hown' rfl))
      go_roundw
      case rel => exact ⟨m / 1000000, _, rfl, by omega, hr7, HN, by rw [List.length_append, List.length_singleton]; omega, hlast, hb7⟩
      case measure =>
        show ((m : Int) / 1000000).toNat < ((m : Int)).toNat
        omega

end Go.Proofs.YtepljhpamconbaaDoor
