/- shiftRight. -/
import Derived.Test.YtepljhpamconbaaDoorNatOB
namespace Go.Proofs.YtepljhpamconbaaDoor
open Go.RowKit

/-- The state of shiftRight's loop: the places from k on are done. -/
structure ShrAt (W0 : World) (D : Nat) (ds : List Nat) (S k : Nat) (wr : World) : Prop where
  arr : ∃ xs, Arr wr D xs ∧ xs.length = ds.length ∧ (∀ x ∈ xs, x < B32) ∧ val B32 (xs.drop k) = val B32 (ds.drop k) / S
  old : Below D W0 wr
theorem ShrAt.step {W0 wr : World} {D : Nat} {ds : List Nat} {s j x h : Nat} (ha : ShrAt W0 D ds (2 ^ s) (j + 1) wr) (hs : s ≤ 32) (hj : j < ds.length) (hx : ds[j] = x) (hx1 : x ≤ 4294967295) (hh : h = val B32 (ds.drop (j + 1)) % B32) :
    ShrAt W0 D ds (2 ^ s) j (wr.setCell ⟨D, j, none⟩ (.int .u32 (((h * 4294967296 + x) / 2 ^ s % 4294967296 : Nat) : Int))) := by
  obtain ⟨⟨xs, h1, h2, h3, h4⟩, h5⟩ := ha
  refine ⟨⟨_, h1.store _ _, by simpa using h2, all_set h3 (by rw [b32]; omega), ?_⟩, h5.setCell (p := ⟨D, j, none⟩) (Nat.le_refl _) _⟩
  rw [val_drop_set (by omega), val_drop hj, hx, h4, hh]
  have := shr_step (B := B32) (S := 2 ^ s) (d := x) (D := val B32 (ds.drop (j + 1))) (Nat.pow_pos (by decide)) (two_pow_32 hs) (by decide) (by rw [b32]; omega)
  rw [this, b32]
/-- The next digit up. -/
theorem high_next {ds : List Nat} {j : Nat} (hj : j < ds.length) (h1 : ∀ d ∈ ds, d < B32) : ds[j] = val B32 (ds.drop j) % B32 := by
  rw [val_drop hj, Nat.add_mul_mod_self_left, Nat.mod_eq_of_lt (h1 _ (List.getElem_mem hj))]

set_option maxRecDepth 100000 in
set_option maxHeartbeats 2000000 in
theorem shr_any (P : Option Addr) (c s : Nat) (ds : List Nat) (w : World) (hd : DigP w P ds) (h1 : ∀ d ∈ ds, d < B32) (hs : s ≤ 31) (hL : ds.length ≤ 1000000) :
    Calls Tryd.prog 65 #[.slice P ds.length c, .int .i64 (s : Int)] w fun e w' => ∃ D xs, e = .returned (.slice (some ⟨D, 0, none⟩) ds.length ds.length) ∧ Arr w' D xs ∧ xs.length = ds.length ∧ (∀ x ∈ xs, x < B32) ∧ val B32 xs = val B32 ds / 2 ^ s ∧ Below w.heap.size w w' := by
  obtain ⟨i0, hi, hz0, hz1, hz2⟩ := info_parts infoU
  have H1 := hid h1
  have HD := hid hd
  clear h1 hd
  go_enter Tryd.func65, Tryd.ntmps65
  go_upto_region 2 with (at_make; go_loud (refine wpList_make_full _ rfl _ _ _ rfl w.heap.size 69 i0 _ 1 Tryd.underlying22 hi hz0 hz1 _ _ _ _ ds.length rfl rfl (by simp) (by simp) (by rw [hz2]; omega) (by unfold maxLen; omega) (Nat.le_refl _) ?_; intro w2 hown hgr; have hb2 : Below w.heap.size w w2 := (Below.refl _ w).grown hgr (Nat.le_refl _) (by simp); have hA := arr_made hown; clear hown hgr))
  have hat0 : ShrAt w w.heap.size ds (2 ^ s) ds.length w2 := ⟨⟨_, hA, by simp, fun x hx => by rw [List.eq_of_mem_replicate hx, b32]; omega, by simp [val]⟩, hb2⟩
  clear hA hb2
  go_wp2_with fail
  go_loopw [6, 7] (fun hv iv wr => ∃ k h : Nat, k ≤ ds.length ∧ iv = .int .i64 ((k : Int) - 1) ∧ hv = .int .u32 (h : Int) ∧ h ≤ 4294967295 ∧ RowKit.Hid (h = val B32 (ds.drop k) % B32) ∧ ShrAt w w.heap.size ds (2 ^ s) k wr) (fun _ iv _ => (intOf iv + 1).toNat)
  case atStart => exact ⟨ds.length, 0, Nat.le_refl _, rfl, rfl, by omega, hid (by rw [List.drop_length]; rfl), hat0⟩
  case round =>
    clear hat0
    obtain ⟨k, h, hk, rfl, rfl, hh1, HH, hat⟩ := hrel
    generalize wr = W1 at hat ⊢
    have hold := hat.old
    by_cases hk0 : k = 0
    · subst hk0
      obtain ⟨xs, harr, hxl, hxb, hxv⟩ := hat.arr
      rw [List.drop_zero, List.drop_zero] at hxv
      clear hat
      go_wp2
      go_ret
      exact ⟨_, xs, rfl, harr, hxl, hxb, hxv, hold⟩
    · obtain ⟨j, rfl⟩ : ∃ j, k = j + 1 := ⟨k - 1, by omega⟩
      have hj : j < ds.length := by omega
      have ei : (((j + 1 : Nat) : Int) - 1) = (j : Int) := by omega
      rw [ei]
      clear ei
      obtain ⟨g, rfl, hg⟩ := HD.out.at hj
      have g0 := (hg.below hold).at0 j hj
      have hgl := Nat.lt_of_lt_of_le hg.lt hold.size
      have hne : g ≠ w.heap.size := by have := hg.lt; omega
      have hx1 : ds[j] ≤ 4294967295 := by have := H1.out _ (List.getElem_mem hj); rw [b32] at this; omega
      have HN := hid (high_next hj H1.out)
      obtain ⟨x, hx⟩ : ∃ x, ds[j] = x := ⟨_, rfl⟩
      rw [hx] at g0 hx1 HN
      have HS := hid (hat.step (by omega) hj hx hx1 HH.out)
      obtain ⟨xs, harr, hxl, _, _⟩ := hat.arr
      have c0 := harr.cell j (by omega)
      obtain ⟨z, hz⟩ : ∃ z, xs[j]'(by omega) = z := ⟨_, rfl⟩
      rw [hz] at c0
      clear hz
      have hfr := harr.free
      have hDl := harr.lt
      have q0 : 0 ≤ (j : Int) := by omega
      have e2 := div_or h x hh1 hx1
      have e3 : (2 : Int) ^ s = ((2 ^ s : Nat) : Int) := by simp
      obtain ⟨S, hS⟩ : ∃ S, 2 ^ s = S := ⟨_, rfl⟩
      have HSE := hid hS
      have hp : 0 < 2 ^ s := Nat.pow_pos (by decide)
      rw [hS] at HS e3 hp
      obtain ⟨t, ht⟩ : ∃ t, h * 4294967296 + x = t := ⟨_, rfl⟩
      rw [ht] at HS e2
      clear hx hS hat harr hxl ht
      go_upto_region 7 with (fail)
      clear e2
      go_upto_region 8 with (fail)
      obtain ⟨W6, hW6, hS6, g6, hgl6⟩ : ∃ W6, W6 = W1.setCell ⟨w.heap.size, j, none⟩ (.int .u32 ((t : Int) / (S : Int) % 4294967296)) ∧ ShrAt w w.heap.size ds S j W6 ∧ W6.cell? ⟨g, j, none⟩ = some (.int .u32 (x : Int)) ∧ g < W6.heap.size :=
        ⟨_, rfl, HS.out, (World.cell?_of_block (w := W1) (Below.heap_setCell _ _ _ _ hne)).trans g0, by simpa [World.setCell] using hgl⟩
      rw [← hW6]
      clear hW6 g0 hgl c0 hfr hDl
      go_wp2
      go_roundw
      case rel => exact ⟨j, x, by omega, by go_num, rfl, hx1, HN, by rw [HSE.out]; exact hS6⟩
      case measure => simp [intOf]
end Go.Proofs.YtepljhpamconbaaDoor
