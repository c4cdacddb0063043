/- The reference: Text. -/
import Derived.Test.YtepljhpamconbaaDoorNatRE
import Derived.Test.YtepljhpamconbaaDoorNatN
import Derived.Laws.IdiomStrings
namespace Go.Proofs.YtepljhpamconbaaDoor
open Go.RowKit
open Go.Lib (decDigits)

/-- The text of a number, none of 0. -/
def decE (n : Nat) : List UInt8 := if n = 0 then [] else decDigits n
theorem decE_step {q : Nat} (h : q ≠ 0) : decE q = decE (q / 10) ++ [chr (q % 10)] := by
  unfold decE
  rw [if_neg h]
  by_cases h1 : q < 10
  · rw [dec_small h1, Nat.div_eq_of_lt h1, if_pos rfl, Nat.mod_eq_of_lt h1]; rfl
  · rw [dec_big h1, if_neg (by omega)]
theorem digs_at : ∀ (i n : Nat) (h : i < (digs B6 n).length), (digs B6 n)[i] = n / B6 ^ i % B6
  | 0, n, h => by
    have hn : n ≠ 0 := fun e => by subst e; rw [digs_zero] at h; cases h
    simp only [digs_pos b6_2 hn, List.getElem_cons_zero, Nat.pow_zero, Nat.div_one]
  | i + 1, n, h => by
    have hn : n ≠ 0 := fun e => by subst e; rw [digs_zero] at h; cases h
    have h2 : i < (digs B6 (n / B6)).length := by rw [digs_pos b6_2 hn] at h; simpa using h
    have ih := digs_at i (n / B6) h2
    simp only [digs_pos b6_2 hn, List.getElem_cons_succ]
    rw [ih, Nat.div_div_eq_div_mul, Nat.pow_succ, Nat.mul_comm]
theorem digs_over {i n : Nat} : n / B6 ^ i ≠ 0 ↔ i < (digs B6 n).length := by
  constructor
  · intro h
    refine digs_len_ge b6_2 i n ?_
    exact Nat.le_of_not_lt fun hlt => h (Nat.div_eq_of_lt hlt)
  · intro h h0
    have : n < B6 ^ i := Nat.lt_of_not_le fun hle => by
      have := Nat.div_pos hle (Nat.pow_pos (by decide : 0 < B6)); omega
    have := digs_len_le b6_2 i n this
    omega
/-- What stands written: n's text but for the text of q. -/
def Wrote (n q : Nat) (s : ByteArray) : Prop := decE n = decE q ++ s.data.toList
theorem Wrote.size {n q L : Nat} {s : ByteArray} (h : Wrote n q s) (hL : (decE n).length ≤ L) : s.size ≤ L := by
  unfold Wrote at h
  rw [h, List.length_append, str_len] at hL; omega
theorem Wrote.step {n q : Nat} {s : ByteArray} (h : Wrote n q s) (hq : q ≠ 0) : Wrote n (q / 10) (⟨#[chr (q % 10)]⟩ ++ s) := by
  unfold Wrote at h ⊢
  rw [h, decE_step hq, Go.Joins.data_append, List.append_assoc]

theorem conv_one (W : World) (d : Nat) (hd : d < 10) : (convert 42 9 (.slice (some ⟨W.heap.size, 0, none⟩) 1 1)).run Tryd.prog (W.alloc (.cells #[.int .u8 (48 + (d : Int))] 5)) = .ok (.string ⟨#[chr d]⟩) (W.alloc (.cells #[.int .u8 (48 + (d : Int))] 5)) :=
  run_convert_bytes_back _ _ _ 5 ⟨W.heap.size, 0, none⟩ 1 [chr d] Tryd.underlying42 Tryd.underlying5 Tryd.underlying9 (fun j hj => by
    have : j = 0 := by simpa using hj
    subst this
    rw [add_at, cell_box1 (heap_new W _)]
    simp only [List.getElem_cons_zero, chr_nat hd]; rfl)
theorem group_mod (M k : Nat) (hk : k < 6) : M % 1000000 / 10 ^ k % 10 = M / 10 ^ k % 10 := by
  match k, hk with
  | 0, _ => simp only [Nat.pow_zero]; omega
  | 1, _ => rw [show 10 ^ 1 = 10 from rfl]; omega
  | 2, _ => rw [show 10 ^ 2 = 100 from rfl]; omega
  | 3, _ => rw [show 10 ^ 3 = 1000 from rfl]; omega
  | 4, _ => rw [show 10 ^ 4 = 10000 from rfl]; omega
  | 5, _ => rw [show 10 ^ 5 = 100000 from rfl]; omega
theorem group_ne {M k G : Nat} (hk : k < 6) (hG : G = M % 1000000 / 10 ^ k) (h : M / 1000000 ≠ 0 ∨ 0 < G) : M / 10 ^ k ≠ 0 := by
  have hp : 0 < 10 ^ k := Nat.pow_pos (by decide)
  have hle : 10 ^ k ≤ 10 ^ 6 := Nat.pow_le_pow_right (by decide) (by omega)
  have h6 : 10 ^ 6 = 1000000 := rfl
  have : 10 ^ k ≤ M := by
    rcases h with h | h
    · have : 1000000 ≤ M := Nat.le_of_not_lt fun h' => h (Nat.div_eq_of_lt h')
      omega
    · rw [hG] at h
      have : 10 ^ k ≤ M % 1000000 := Nat.le_of_not_lt fun h' => by rw [Nat.div_eq_of_lt h'] at h; omega
      have := Nat.mod_le M 1000000
      omega
  have := Nat.div_pos this hp
  omega
theorem group_end {M k G q : Nat} (hk : k ≤ 6) (hG : G = M % 1000000 / 10 ^ k) (hq : q = M / 10 ^ k) (h : ¬ (k < 6 ∧ (M / 1000000 ≠ 0 ∨ 0 < G))) : q = M / 1000000 := by
  by_cases h6 : k = 6
  · rw [hq, h6]
  · have h7 : M / 1000000 = 0 := Decidable.byContradiction fun h' => h ⟨by omega, .inl h'⟩
    have h8 : G = 0 := Decidable.byContradiction fun h' => h ⟨by omega, .inr (by omega)⟩
    have h9 : M % 1000000 = M := Nat.mod_eq_of_lt (by omega)
    rw [h9] at hG
    rw [h7, hq, ← hG, h8]

set_option maxRecDepth 100000 in
set_option maxHeartbeats 4000000 in
theorem rtext_any (v : Value) (n : Nat) (w : World) (hv : RefV w v n) (hl : (digs B6 n).length ≤ 100000) (hd : (decDigits n).length ≤ 10000000) :
    Calls Tryd.prog 39 #[v] w fun e w' => e = .returned (.string ⟨(decDigits n).toArray⟩) ∧ Below w.heap.size w w' := by
  obtain ⟨p, cp, rfl, hpg⟩ := GV.slice hv
  have HPG := hid hpg
  by_cases h0 : n = 0
  · subst h0
    rw [digs_zero, dec_small (by omega)]
    clear hv hpg HPG hl hd
    go_enter Tryd.func39, Tryd.ntmps39
    go_wp2
    go_ret
    exact ⟨rfl, Below.refl _ _⟩
  · have hpos : 0 < (digs B6 n).length := List.length_pos_iff.2 fun e => h0 ((digs_eq_nil b6_2).1 e)
    have hne : (((digs B6 n).length : Int) == 0) = false := by rw [beq_eq_false_iff_ne]; omega
    have HAT := hid (fun i h => digs_at i n h)
    have HOV := hid (fun i => digs_over (i := i) (n := n))
    have HE := hid (show decE n = decDigits n from if_neg h0)
    have HDL := hid hd
    obtain ⟨xs, hxs⟩ : ∃ xs, digs B6 n = xs := ⟨_, rfl⟩
    rw [hxs] at HPG HAT hpos hl hne HOV ⊢
    clear hv hpg hxs h0 hd
    go_enter Tryd.func39, Tryd.ntmps39
    go_wp2_with fail
    go_loopw [3, 4] (fun sv i wr => ∃ (k : Nat) (s : ByteArray), k ≤ xs.length ∧ i = .int .i64 k ∧ sv = .string s ∧ RowKit.Hid (Wrote n (n / B6 ^ k) s) ∧ Below w.heap.size w wr) (fun _ i _ => xs.length - (intOf i).toNat)
    case atStart => exact ⟨0, _, Nat.zero_le _, rfl, rfl, hid (by rw [Nat.pow_zero, Nat.div_one]; unfold Wrote; simp), Below.refl _ _⟩
    case round =>
      obtain ⟨i, s, hi, rfl, rfl, HW, hold⟩ := hrel
      generalize wr = W1 at hold ⊢
      by_cases hlt : i < xs.length
      · obtain ⟨g, rfl, hg, _, _⟩ := HPG.out (fun e => by subst e; simp at hlt)
        have hg1 := (hg.below hold).at0 i hlt
        have hgl := Nat.lt_of_lt_of_le hg.lt hold.size
        rw [HAT.out i hlt] at hg1
        unfold iCell at hg1
        have hM := (HOV.out i).2 hlt
        have hM1 := HOV.out (i + 1)
        rw [Nat.pow_succ, ← Nat.div_div_eq_div_mul, b6] at hM1
        rw [b6] at hg1
        have HNX := hid (show n / B6 ^ (i + 1) = n / B6 ^ i / 1000000 by rw [Nat.pow_succ, ← Nat.div_div_eq_div_mul, b6])
        obtain ⟨M, hMM⟩ : ∃ M, n / B6 ^ i = M := ⟨_, rfl⟩
        rw [b6] at HNX hMM HW
        rw [hMM] at hg1 HNX HW
        have hM' : M ≠ 0 := by rw [b6, hMM] at hM; exact hM
        have hM1' : M / 1000000 ≠ 0 ↔ i + 1 < xs.length := by rw [hMM] at hM1; exact hM1
        clear hM hM1 hMM
        have hti : (i : Int) < (xs.length : Int) := by omega
        have hgm : 0 ≤ (M : Int) % 1000000 := by omega
        go_upto_region 9 with (fail)
        go_loopw [3, 5, 6] (fun sv gv kv wr => ∃ (k G q : Nat) (s : ByteArray), k ≤ 6 ∧ kv = .int .i64 k ∧ gv = .int .i64 (G : Int) ∧ sv = .string s ∧ RowKit.Hid (G = M % 1000000 / 10 ^ k ∧ q = M / 10 ^ k) ∧ RowKit.Hid (Wrote n q s) ∧ Below w.heap.size w wr) (fun _ _ kv _ => 6 - (intOf kv).toNat)
        case atStart => exact ⟨0, M % 1000000, M, s, by omega, rfl, rfl, rfl, hid (by simp), HW, hold⟩
        case round =>
          obtain ⟨k, G, q, s2, hk6', rfl, rfl, rfl, HGQ, HW2, hold2⟩ := hrel
          generalize wr = W2 at hold2 ⊢
          obtain ⟨hG, hq⟩ := HGQ.out
          have hGb : G < 1000000 := by rw [hG]; exact Nat.lt_of_le_of_lt (Nat.div_le_self _ _) (by omega)
          by_cases hgo : k < 6 ∧ (i + 1 < xs.length ∨ 0 < G)
          · obtain ⟨hk6, hgo2⟩ := hgo
            have hq0 : q ≠ 0 := by
              rw [hq]
              exact group_ne hk6 hG (hgo2.imp hM1'.2 id)
            by_cases hlast : i + 1 < xs.length
            · have hli : (i : Int) < (xs.length : Int) - 1 := by omega
              have HS := hid (HW2.out.step hq0)
              have hsz := HW2.out.size (by rw [HE.out]; exact HDL.out)
              have hGm := group_mod M k hk6
              rw [← hG, ← hq] at hGm
              have HG2 := hid (show G / 10 = M % 1000000 / 10 ^ (k + 1) by rw [hG, Nat.div_div_eq_div_mul, Nat.pow_succ])
              have HQ2 := hid (show q / 10 = M / 10 ^ (k + 1) by rw [hq, Nat.div_div_eq_div_mul, Nat.pow_succ])
              rw [← hGm] at HS
              obtain ⟨c1, hc1⟩ : ∃ c1, (⟨#[chr (G % 10)]⟩ : ByteArray) = c1 := ⟨_, rfl⟩
              rw [hc1] at HS
              have hcv := conv_one W2 (G % 10) (by omega)
              rw [hc1] at hcv
              have hc1s : c1.size = 1 := by rw [← hc1]; rfl
              have hsum : c1.size + s2.size ≤ 9223372036854775807 := by omega
              have ecv : ((G % 10 : Nat) : Int) = (G : Int) % 10 := rfl
              rw [ecv] at hcv
              have hk6i : (k : Int) < 6 := by omega
              clear hGm hq hG hc1 ecv hc1s
              go_wp2
              go_roundw
              case rel => exact ⟨k + 1, G / 10, q / 10, _, by omega, by go_num, rfl, rfl, hid ⟨HG2.out, HQ2.out⟩, HS, hold2.alloc hold2.size _⟩
              case measure => simp [intOf]; omega
            · have hli : ¬ (i : Int) < (xs.length : Int) - 1 := by omega
              have hGi : (0 : Int) < (G : Int) := by omega
              have HS := hid (HW2.out.step hq0)
              have hsz := HW2.out.size (by rw [HE.out]; exact HDL.out)
              have hGm := group_mod M k hk6
              rw [← hG, ← hq] at hGm
              have HG2 := hid (show G / 10 = M % 1000000 / 10 ^ (k + 1) by rw [hG, Nat.div_div_eq_div_mul, Nat.pow_succ])
              have HQ2 := hid (show q / 10 = M / 10 ^ (k + 1) by rw [hq, Nat.div_div_eq_div_mul, Nat.pow_succ])
              rw [← hGm] at HS
              obtain ⟨c1, hc1⟩ : ∃ c1, (⟨#[chr (G % 10)]⟩ : ByteArray) = c1 := ⟨_, rfl⟩
              rw [hc1] at HS
              have hcv := conv_one W2 (G % 10) (by omega)
              rw [hc1] at hcv
              have hc1s : c1.size = 1 := by rw [← hc1]; rfl
              have hsum : c1.size + s2.size ≤ 9223372036854775807 := by omega
              have ecv : ((G % 10 : Nat) : Int) = (G : Int) % 10 := rfl
              rw [ecv] at hcv
              have hk6i : (k : Int) < 6 := by omega
              clear hGm hq hG hc1 ecv hc1s
              go_wp2
              go_roundw
              case rel => exact ⟨k + 1, G / 10, q / 10, _, by omega, by go_num, rfl, rfl, hid ⟨HG2.out, HQ2.out⟩, HS, hold2.alloc hold2.size _⟩
              case measure => simp [intOf]; omega
          · have hdone : Wrote n (M / 1000000) s2 := by
              have h1 := HW2.out
              have h2 := group_end hk6' hG hq (fun h => hgo ⟨h.1, h.2.imp hM1'.1 id⟩)
              rwa [h2] at h1
            rw [← HNX.out] at hdone
            have HD := hid hdone
            by_cases hk6 : k < 6
            · have hli : ¬ (i : Int) < (xs.length : Int) - 1 := fun h => hgo ⟨hk6, .inl (by omega)⟩
              have hG0 : G = 0 := Decidable.byContradiction fun h => hgo ⟨hk6, .inr (by omega)⟩
              have hk6i : (k : Int) < 6 := by omega
              clear hG hq hdone hgo
              subst hG0
              go_wp2
              go_roundw
              case rel => exact ⟨i + 1, s2, by omega, by go_num, rfl, HD, hold2⟩
              case measure => simp [intOf]; omega
            · have hk6i : ¬ (k : Int) < 6 := by omega
              clear hG hq hdone hgo
              go_wp2
              go_roundw
              case rel => exact ⟨i + 1, s2, by omega, by go_num, rfl, HD, hold2⟩
              case measure => simp [intOf]; omega
      · obtain rfl : i = xs.length := by omega
        have hz : n / B6 ^ xs.length = 0 := Decidable.byContradiction fun h => absurd ((HOV.out _).1 h) (by omega)
        have hs : s = ⟨(decDigits n).toArray⟩ := by
          have h1 := HW.out
          rw [hz] at h1
          unfold Wrote at h1
          rw [HE.out] at h1
          have : s.data.toList = decDigits n := by rw [h1]; simp [decE]
          rw [← this]
        have HS := hid hs
        clear hz hs
        go_wp2
        go_ret
        exact ⟨by rw [HS.out]; rfl, hold⟩

end Go.Proofs.YtepljhpamconbaaDoor
