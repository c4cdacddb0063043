/- The shifts of divideLong. -/
import Derived.Test.YtepljhpamconbaaDoorNatOA
namespace Go.Proofs.YtepljhpamconbaaDoor
open Go.RowKit

theorem two_pow_32 {s : Nat} (hs : s ≤ 32) : (2 ^ s) ∣ B32 := ⟨2 ^ (32 - s), by rw [← Nat.pow_add, show s + (32 - s) = 32 by omega]; rfl⟩
/-- The state of shiftLeft's loop. -/
structure ShlAt (W0 : World) (D : Nat) (ds : List Nat) (S L k low : Nat) (wr : World) : Prop where
  arr : ∃ xs, Arr wr D xs ∧ xs.length = L ∧ (∀ x ∈ xs, x < B32) ∧ val B32 (xs.take k) + B32 ^ k * low = val B32 (ds.take k) * S
  old : Below D W0 wr
  lo : low < S
theorem ShlAt.step {W0 wr : World} {D : Nat} {ds : List Nat} {s L k low x : Nat} (h : ShlAt W0 D ds (2 ^ s) L k low wr) (hs : s ≤ 32) (hk : k < ds.length) (hL : ds.length ≤ L) (hx : ds[k] = x) (hx1 : x ≤ 4294967295) :
    ShlAt W0 D ds (2 ^ s) L (k + 1) (x * 2 ^ s / 4294967296) (wr.setCell ⟨D, k, none⟩ (.int .u32 ((x * 2 ^ s % 4294967296 + low : Nat) : Int))) := by
  obtain ⟨⟨xs, h1, h2, h3, h4⟩, h5, h6⟩ := h
  have hp : 0 < 2 ^ s := Nat.pow_pos (by decide)
  obtain ⟨s1, s2, s3⟩ := shl_step (B := B32) (S := 2 ^ s) (x := x) (low := low) hp (two_pow_32 hs) (by decide) (by rw [b32]; omega) h6
  rw [b32] at s1 s2 s3
  refine ⟨⟨_, h1.store _ _, by simpa using h2, all_set h3 (by rw [b32]; exact s1), ?_⟩, h5.setCell (p := ⟨D, k, none⟩) (Nat.le_refl _) _, s2⟩
  rw [val_take_set (by omega), val_take_succ hk, hx, Nat.pow_succ, Nat.mul_assoc]
  have hb := b32
  generalize 2 ^ s = S at *
  generalize B32 ^ k = P at *
  have e : P * (x * S % 4294967296 + low) + P * (B32 * (x * S / 4294967296)) = P * (x * S + low) := by rw [hb, ← Nat.mul_add, s3]
  rw [Nat.add_mul, Nat.mul_assoc P x S]
  rw [Nat.mul_add P (x * S)] at e
  omega
theorem u32_or_shl (x s low : Nat) (hs : s ≤ 31) (hx : x ≤ 4294967295) (hl : low < 2 ^ s) : bits BinOp.or IntKind.u32 ((x : Int) * ((2 ^ s : Nat) : Int) % 4294967296) (low : Int) = ((x * 2 ^ s % 4294967296 + low : Nat) : Int) := by
  have e1 : (x : Int) * ((2 ^ s : Nat) : Int) % 4294967296 = ((x * 2 ^ s % 4294967296 : Nat) : Int) := by
    rw [← Int.natCast_mul]; rfl
  have hlt : 2 ^ s ≤ 2 ^ 31 := Nat.pow_le_pow_right (by decide) hs
  rw [e1, u32_or_nat _ _ (by omega) (by have : 2 ^ 31 = 2147483648 := rfl; omega)]
  have e2 : x * 2 ^ s % 4294967296 = 2 ^ s * (x % 2 ^ (32 - s)) := by
    rw [show (4294967296 : Nat) = 2 ^ s * 2 ^ (32 - s) by rw [← Nat.pow_add, show s + (32 - s) = 32 by omega], Nat.mul_comm x, Nat.mul_mod_mul_left]
  rw [e2, ← Nat.two_pow_add_eq_or_of_lt hl]

set_option maxRecDepth 100000 in
set_option maxHeartbeats 2000000 in
theorem shl_any (P : Option Addr) (c s L : Nat) (ds : List Nat) (w : World) (hd : DigP w P ds) (h1 : ∀ d ∈ ds, d < B32) (hs : s ≤ 31) (hl : ds.length ≤ L) (hL : L ≤ 1000000) (hL1 : L ≤ ds.length + 1) (hfit : L = ds.length → val B32 ds * 2 ^ s < B32 ^ L) :
    Calls Tryd.prog 63 #[.slice P ds.length c, .int .i64 (s : Int), .int .i64 (L : Int)] w fun e w' => ∃ D xs, e = .returned (.slice (some ⟨D, 0, none⟩) L L) ∧ w.heap.size ≤ D ∧ Arr w' D xs ∧ xs.length = L ∧ (∀ x ∈ xs, x < B32) ∧ val B32 xs = val B32 ds * 2 ^ s ∧ Below w.heap.size w w' := by
  obtain ⟨i0, hi, hz0, hz1, hz2⟩ := info_parts infoU
  have H1 := hid h1
  have HD := hid hd
  have HF := hid hfit
  have HL1 := hid hL1
  have hp : 0 < 2 ^ s := Nat.pow_pos (by decide)
  clear h1 hd hfit hL1
  go_enter Tryd.func63, Tryd.ntmps63
  go_upto_region 2 with (at_make; go_loud (refine wpList_make_full _ rfl _ _ _ rfl w.heap.size 69 i0 _ 1 Tryd.underlying22 hi hz0 hz1 _ _ _ _ L rfl rfl (by simp) (by simp) (by rw [hz2]; omega) (by unfold maxLen; omega) (Nat.le_refl _) ?_; intro w2 hown hgr; have hb2 : Below w.heap.size w w2 := (Below.refl _ w).grown hgr (Nat.le_refl _) (by simp); have hA := arr_made hown; clear hown hgr))
  have hat0 : ShlAt w w.heap.size ds (2 ^ s) L 0 0 w2 := ⟨⟨_, hA, by simp, fun x hx => by rw [List.eq_of_mem_replicate hx, b32]; omega, by simp [val]⟩, hb2, hp⟩
  clear hA hb2
  go_wp2_with fail
  go_loopw [8, 15] (fun lv iv wr => ∃ k low : Nat, k ≤ ds.length ∧ iv = .int .i64 (k : Int) ∧ lv = .int .u32 (low : Int) ∧ ShlAt w w.heap.size ds (2 ^ s) L k low wr) (fun _ iv _ => ds.length - (intOf iv).toNat)
  case atStart => exact ⟨0, 0, Nat.zero_le _, rfl, rfl, hat0⟩
  case round =>
    clear hat0
    obtain ⟨k, low, hk, rfl, rfl, hat⟩ := hrel
    generalize wr = W1 at hat ⊢
    have hold := hat.old
    have hlo := hat.lo
    obtain ⟨xs, harr, hxl, hxb, hxv⟩ := hat.arr
    have hfr := harr.free
    have hDl := harr.lt
    by_cases hlt : k < ds.length
    · obtain ⟨g, rfl, hg⟩ := HD.out.at hlt
      have g0 := (hg.below hold).at0 k hlt
      have hgl := Nat.lt_of_lt_of_le hg.lt hold.size
      have hx1 : ds[k] ≤ 4294967295 := by have := H1.out _ (List.getElem_mem hlt); rw [b32] at this; omega
      obtain ⟨x, hx⟩ : ∃ x, ds[k] = x := ⟨_, rfl⟩
      rw [hx] at g0 hx1
      have HS := hid (hat.step (by omega) hlt hl hx hx1)
      have e2 := u32_or_shl x s low hs hx1 hlo
      have c0 := harr.cell k (by omega)
      obtain ⟨z, hz⟩ : ∃ z, xs[k]'(by omega) = z := ⟨_, rfl⟩
      rw [hz] at c0
      clear hz
      have e3 : (2 : Int) ^ s = ((2 ^ s : Nat) : Int) := by simp
      obtain ⟨S, hS⟩ : ∃ S, 2 ^ s = S := ⟨_, rfl⟩
      have HSE := hid hS
      have hS31 : S ≤ 2147483648 := by rw [← hS]; exact Nat.pow_le_pow_right (n := 2) (by decide) hs
      rw [hS] at HS e2 e3 hlo hp
      have hxs : x * S ≤ 4294967295 * 2147483648 := Nat.mul_le_mul hx1 hS31
      have hm1 : (x : Int) * (S : Int) ≤ 9223372034707292160 := by
        have e1 : ((x * S : Nat) : Int) = (x : Int) * (S : Int) := Int.natCast_mul x S
        omega
      have hm0 : 0 ≤ (x : Int) * (S : Int) := Int.mul_nonneg (by omega) (by omega)
      obtain ⟨T, hT⟩ : ∃ T, x * S % 4294967296 + low = T := ⟨_, rfl⟩
      rw [hT] at e2 HS
      have hlb1 : (x : Int) * (S : Int) / 4294967296 ≤ 2147483648 := by omega
      have hlb0 : 0 ≤ (x : Int) * (S : Int) / 4294967296 := by omega
      clear hx hS hat harr hxl hxb hxv hT hxs
      go_upto_region 7 with (fail)
      clear e2
      go_wp2
      go_roundw
      case rel =>
        refine ⟨k + 1, x * S / 4294967296, by omega, by go_num, ?_, by rw [HSE.out]; exact HS.out⟩
        show Value.int .u32 _ = Value.int .u32 _
        congr 1
      case measure => simp [intOf]; omega
    · obtain rfl : k = ds.length := by omega
      rw [List.take_length] at hxv
      by_cases hLL : ds.length < L
      · have hLi : (ds.length : Int) < (L : Int) := by omega
        have hst := harr.store ds.length low
        have c0 := harr.cell ds.length (by omega)
        obtain ⟨z, hz⟩ : ∃ z, xs[ds.length]'(by omega) = z := ⟨_, rfl⟩
        rw [hz] at c0
        have HVX := hid (show val B32 (xs.set ds.length low) = val B32 ds * 2 ^ s by
          have h4 := val_take_set (B := B32) (xs := xs) (k := ds.length) (v := low) (by omega)
          rw [List.take_of_length_le (by rw [List.length_set]; have := HL1.out; omega)] at h4
          rw [h4, hxv])
        have HLB := hid (show low < B32 by rw [b32]; have : 2 ^ s ≤ 2 ^ 31 := Nat.pow_le_pow_right (by decide) hs; omega)
        clear hz hat hxv
        go_wp2
        go_ret
        exact ⟨_, _, rfl, Nat.le_refl _, hst, by rw [List.length_set]; exact hxl, all_set hxb HLB.out, HVX.out, hold.setCell (p := ⟨w.heap.size, ds.length, none⟩) (Nat.le_refl _) _⟩
      · have hLe : L = ds.length := by omega
        have hLi : ¬ (ds.length : Int) < (L : Int) := by omega
        have HVX := hid (show val B32 xs = val B32 ds * 2 ^ s by
          have h5 := HF.out hLe
          rw [List.take_of_length_le (by omega)] at hxv
          rw [hLe] at h5
          rcases Nat.eq_zero_or_pos low with h0 | h0
          · subst h0; omega
          · have : B32 ^ ds.length * 1 ≤ B32 ^ ds.length * low := Nat.mul_le_mul_left _ h0
            omega)
        clear hxv hat hLe
        go_wp2
        go_ret
        first
          | exact ⟨_, rfl, Nat.le_refl _, xs, harr, hxl, hxb, HVX.out, hold⟩
          | exact ⟨_, xs, rfl, Nat.le_refl _, harr, hxl, hxb, HVX.out, hold⟩
end Go.Proofs.YtepljhpamconbaaDoor
