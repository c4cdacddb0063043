/- divideSmall. -/
import Derived.Test.YtepljhpamconbaaDoorNatG
namespace Go.Proofs.YtepljhpamconbaaDoor
open Go.RowKit

theorem div_or (h l : Nat) (hh : h ≤ 4294967295) (hl : l ≤ 4294967295) : bits BinOp.or IntKind.u64 ((h : Int) * 4294967296) (l : Int) = ((h * 4294967296 + l : Nat) : Int) := by
  have e1 : (h : Int) * 4294967296 = ((h * 4294967296 : Nat) : Int) := by omega
  rw [e1, u64_or_nat _ _ (by omega) (by omega)]
  have e2 : h * 4294967296 = 2 ^ 32 * h := by omega
  rw [e2, ← Nat.two_pow_add_eq_or_of_lt (show l < 2 ^ 32 by omega)]

set_option maxHeartbeats 1000000 in
theorem div32_any (h l y : Nat) (w : World) (hh : h < y) (hl : l ≤ 4294967295) (hy : y ≤ 4294967295) :
    Calls Tryd.prog 55 #[.int .u32 (h : Int), .int .u32 (l : Int), .int .u32 (y : Int)] w fun e w' => e = .returned (.tuple #[.int .u32 (((h * 4294967296 + l) / y : Nat) : Int), .int .u32 (((h * 4294967296 + l) % y : Nat) : Int)]) ∧ Below w.heap.size w w' := by
  have q0 : ((y : Int) == 0) = false := by rw [beq_eq_false_iff_ne]; omega
  have q1 : ((y : Int) != 0) = true := by rw [bne_iff_ne]; omega
  have q2 : ¬ ((y : Int) ≤ (h : Int)) := by omega
  have hq : (h * 4294967296 + l) / y < 4294967296 := Nat.div_lt_of_lt_mul (by
    have := Nat.mul_le_mul_right 4294967296 (show h + 1 ≤ y from hh); omega)
  have hr : (h * 4294967296 + l) % y < y := Nat.mod_lt _ (by omega)
  obtain ⟨t, ht, ht2⟩ : ∃ t : Nat, h * 4294967296 + l = t ∧ (h : Int) * 4294967296 + (l : Int) = (t : Int) := ⟨_, rfl, by omega⟩
  have hor := div_or h l (by omega) hl
  rw [ht] at hor
  rw [ht] at hq hr
  rw [ht]
  have hq1 : (t : Int) / (y : Int) < 4294967296 := by have e : (t : Int) / (y : Int) = ((t / y : Nat) : Int) := rfl; omega
  have hr1 : (t : Int) % (y : Int) < 4294967296 := by have e : (t : Int) % (y : Int) = ((t % y : Nat) : Int) := rfl; omega
  have hq2 : 0 ≤ (t : Int) / (y : Int) := Int.natCast_nonneg (t / y)
  have hr2 : 0 ≤ (t : Int) % (y : Int) := Int.natCast_nonneg (t % y)
  have hy0 : ¬ y = 0 := by omega
  clear ht ht2 hq hr
  go_enter Tryd.func55, Tryd.ntmps55
  go_upto_region 4 with (fail)
  refine wp_region_staged (fun w' => Below w.heap.size w w') [0, 0, 0, 0, 0, 0, 0, 0, 0, 0, 0, 0] (by kernel_rfl) (by kernel_rfl) (by kernel_rfl) (by exact (Below.refl _ _).drew) ?_
  apply lexF rfl; (· intro _; go_simp; (try go_bits); exact ⟨rfl, rfl⟩); simp only [Act.put, List.setIfInBounds_toArray, List.set_cons_zero, List.set_cons_succ]
  apply lexF rfl; (· intro _; go_simp; (try go_bits); exact ⟨rfl, rfl⟩); simp only [Act.put, List.setIfInBounds_toArray, List.set_cons_zero, List.set_cons_succ]
  apply lexF rfl; (· intro _; go_simp; (try go_bits); exact ⟨rfl, rfl⟩); simp only [Act.put, List.setIfInBounds_toArray, List.set_cons_zero, List.set_cons_succ]
  apply lexF rfl; (· intro _; go_simp; (try go_bits); exact ⟨rfl, rfl⟩); simp only [Act.put, List.setIfInBounds_toArray, List.set_cons_zero, List.set_cons_succ]
  apply lexF rfl; (· intro _; go_simp; (try go_bits); exact ⟨rfl, rfl⟩); simp only [Act.put, List.setIfInBounds_toArray, List.set_cons_zero, List.set_cons_succ]
  apply lexF rfl; (· intro _; go_simp; (try go_bits); exact ⟨rfl, rfl⟩); simp only [Act.put, List.setIfInBounds_toArray, List.set_cons_zero, List.set_cons_succ]
  apply lexF rfl; (· intro _; go_simp; (try go_bits); exact ⟨rfl, rfl⟩); simp only [Act.put, List.setIfInBounds_toArray, List.set_cons_zero, List.set_cons_succ]
  apply lexF rfl; (· intro _; go_simp; (try go_bits); exact ⟨rfl, rfl⟩); simp only [Act.put, List.setIfInBounds_toArray, List.set_cons_zero, List.set_cons_succ]
  apply lexF rfl; (· intro _; go_simp; (try go_bits); exact ⟨rfl, rfl⟩); simp only [Act.put, List.setIfInBounds_toArray, List.set_cons_zero, List.set_cons_succ]
  apply lexF rfl; (· intro _; go_simp; (try go_bits); exact ⟨rfl, rfl⟩); simp only [Act.put, List.setIfInBounds_toArray, List.set_cons_zero, List.set_cons_succ]
  apply lexF rfl; (· intro _; go_simp; (try go_bits); exact ⟨rfl, rfl⟩); simp only [Act.put, List.setIfInBounds_toArray, List.set_cons_zero, List.set_cons_succ]
  apply lexF rfl; (· intro _; go_simp; (try go_bits); exact ⟨rfl, rfl⟩); simp only [Act.put, List.setIfInBounds_toArray, List.set_cons_zero, List.set_cons_succ]
  refine lexEnd (fun w2 hw2 => ?_)
  go_wp2
  go_ret2
  exact ⟨rfl, hw2⟩

theorem val_drop {B : Nat} {ds : List Nat} {j : Nat} (hj : j < ds.length) : val B (ds.drop j) = ds[j] + B * val B (ds.drop (j + 1)) := by
  rw [List.drop_eq_getElem_cons hj]; rfl
theorem val_drop_set {B : Nat} {xs : List Nat} {j v : Nat} (hj : j < xs.length) : val B ((xs.set j v).drop j) = v + B * val B (xs.drop (j + 1)) := by
  rw [val_drop (by simpa using hj), List.getElem_set_self, List.drop_set_of_lt (by omega)]
/-- The state of divideSmall's loop: the digits from k on are divided, r rests. -/
structure DivAt (W0 : World) (D : Nat) (ds : List Nat) (b k r : Nat) (wr : World) : Prop where
  arr : ∃ xs : List Nat, Arr wr D xs ∧ xs.length = ds.length ∧ (∀ x ∈ xs, x < B32) ∧ val B32 (ds.drop k) = b * val B32 (xs.drop k) + r
  old : Below D W0 wr
  rb : r < b
theorem DivAt.step {W0 wr wr' : World} {D : Nat} {ds : List Nat} {b j r x : Nat} (h : DivAt W0 D ds b (j + 1) r wr) (hw : Below wr.heap.size wr wr') (hj : j < ds.length) (hx : ds[j] = x) (hx1 : x ≤ 4294967295) (hb : b ≤ 4294967295) :
    DivAt W0 D ds b j ((r * 4294967296 + x) % b) (wr'.setCell ⟨D, j, none⟩ (.int .u32 (((r * 4294967296 + x) / b : Nat) : Int))) := by
  have hrb := h.rb
  obtain ⟨⟨xs, h1, h2, h3, h4⟩, h5, h6⟩ := h
  have hq : (r * 4294967296 + x) / b < 4294967296 := Nat.div_lt_of_lt_mul (by
    have := Nat.mul_le_mul_right 4294967296 (show r + 1 ≤ b from hrb); omega)
  refine ⟨⟨xs.set j ((r * 4294967296 + x) / b), (h1.below hw).store _ _, by simpa using h2, all_set h3 (by rw [b32]; exact hq), ?_⟩, (h5.trans (hw.mono (Nat.le_of_lt h1.lt))).setCell (p := ⟨D, j, none⟩) (Nat.le_refl _) _, Nat.mod_lt _ (by omega)⟩
  rw [val_drop hj, val_drop_set (by omega), h4, hx]
  have e := Nat.div_add_mod (r * 4294967296 + x) b
  rw [b32, Nat.mul_add 4294967296, Nat.mul_add b, Nat.mul_left_comm]
  omega

set_option maxRecDepth 100000 in
set_option maxHeartbeats 2000000 in
theorem divs_core (P : Option Addr) (c b : Nat) (ds : List Nat) (w : World) (hd : DigP w P ds) (h1 : ∀ d ∈ ds, d < B32) (hl : ds.length ≤ 1000000) (hb0 : 0 < b) (hb1 : b ≤ 4294967295) :
    Calls Tryd.prog 42 #[.agg #[.slice P ds.length c], .int .u32 (b : Int)] w fun e w' => ∃ v, e = .returned (.tuple #[v, .int .u32 ((val B32 ds % b : Nat) : Int)]) ∧ NatV w' v (val B32 ds / b) ∧ Below w.heap.size w w' := by
  obtain ⟨i0, hi, hz0, hz1, hz2⟩ := info_parts infoU
  have H1 := hid h1
  clear h1
  go_enter Tryd.func42, Tryd.ntmps42
  go_upto_region 1 with (fail)
  obtain ⟨W1, hW1, hsz, kA, kR, hWb⟩ := box2_head (.slice P ds.length c) (.slice none 0 0) 26 26 w
  rw [← hW1]
  have b1 : w.heap.size < W1.heap.size := by omega
  have b3 : w.heap.size + 1 < W1.heap.size := by omega
  have hd1 := hd.below hWb
  clear hW1 hsz hd
  have a0 := cell_box1 kA
  go_wp2_with (at_make; refine wpList_make_full _ rfl _ _ _ rfl W1.heap.size 69 i0 _ 1 Tryd.underlying22 hi hz0 hz1 _ _ _ _ ds.length rfl rfl (by simp) (by simp) (by rw [hz2]; omega) (by unfold maxLen; omega) (Nat.le_refl _) ?_; intro w2 hown hgr; have hb2 : Below W1.heap.size W1 w2 := (Below.refl _ W1).grown hgr (Nat.le_refl _) (by simp); have hA := arr_made hown; clear hown hgr; have hcc := cellsBelow hb2)
  clear hcc
  have hA0 : DivAt W1 W1.heap.size ds b ds.length 0 w2 := ⟨⟨_, hA, by simp, fun x hx => by rw [List.eq_of_mem_replicate hx, b32]; omega, by
    rw [List.drop_length, List.drop_eq_nil_of_le (by simp)]; simp [val]⟩, hb2, hb0⟩
  clear hA hb2
  go_loopw [7, 8] (fun r i wr => ∃ k rn : Nat, k ≤ ds.length ∧ i = .int .i64 ((k : Int) - 1) ∧ r = .int .u32 (rn : Int) ∧ DivAt W1 W1.heap.size ds b k rn wr) (fun _ i _ => (intOf i + 1).toNat)
  case atStart => exact ⟨ds.length, 0, Nat.le_refl _, rfl, rfl, hA0⟩
  case round =>
    clear hA0
    obtain ⟨k, rn, hk, rfl, rfl, hat⟩ := hrel
    have hold := hat.old
    have hcc := cellsBelow hold
    by_cases hk0 : k = 0
    · subst hk0
      obtain ⟨xs, hxs, hxl, hxb, hxv⟩ := hat.arr
      rw [List.drop_zero, List.drop_zero] at hxv
      have hrb := hat.rb
      have e1 : val B32 ds / b = val B32 xs := by rw [hxv, Nat.mul_add_div hb0, Nat.div_eq_of_lt hrb, Nat.add_zero]
      have e2 : val B32 ds % b = rn := by rw [hxv, Nat.mul_add_mod, Nat.mod_eq_of_lt hrb]
      have HE := hid e1
      have HE2 := hid e2
      have HT := hid (trim_arr hxs hxb (by omega))
      rw [hxl] at HT
      clear hxv hat e1 e2
      go_wp2_with (go_at_call 41; refine HT.out.mono ?_; clear HT; rintro e w3 ⟨p, c3, rfl, hv, hw3⟩; have hb3 := hold.trans (hw3.mono hold.size); have hR2 := (hb3.block _ b3).trans kR; have hc2 := cell_box1 hR2; have hf2 := free_box1 hR2)
      have hc3 := res_store hR2 (.slice p (digs B32 (val B32 xs)).length c3)
      refine bodyPost_ret (v := .tuple #[.agg #[.slice p (digs B32 (val B32 xs)).length c3], .int .u32 (rn : Int)]) (by simp [results, Tryd.results42, go_sem, hc3]) rfl ⟨_, by rw [HE2.out], by rw [HE.out]; exact hv.store hc2 _, ?_⟩
      exact (hWb.trans (hb3.mono (by omega))).setCell (p := ⟨w.heap.size + 1, 0, none⟩) (by show _ ≤ w.heap.size + 1; omega) _
    · obtain ⟨j, rfl⟩ : ∃ j, k = j + 1 := ⟨k - 1, by omega⟩
      have hj : j < ds.length := by omega
      have ei : (((j + 1 : Nat) : Int) - 1) = (j : Int) := by omega
      rw [ei]
      clear ei
      obtain ⟨g, rfl, hdg⟩ := hd1.at hj
      have hgl := hdg.lt
      have g0 := hdg.at0 j hj
      have q0 : 0 ≤ (j : Int) := by omega
      have hx1 : ds[j] ≤ 4294967295 := by have := H1.out _ (List.getElem_mem hj); rw [b32] at this; omega
      obtain ⟨x, hx⟩ : ∃ x, ds[j] = x := ⟨_, rfl⟩
      rw [hx] at g0 hx1
      have HS := hid (fun wr' hw => hat.step (wr' := wr') hw hj hx hx1 hb1)
      have hrb := hat.rb
      obtain ⟨xs, hxs, hxl, hxb, _⟩ := hat.arr
      have hxl' : j < xs.length := by omega
      clear hx
      go_wp2_with (go_at_call 55; refine (div32_any rn x b _ hrb hx1 hb1).mono ?_; rintro e w3 ⟨rfl, hw3⟩; have hx3 := hxs.below hw3; have hfr := hx3.free; have c0 := hx3.cell j hxl'; clear hx3)
      go_roundw
      case rel => exact ⟨j, _, by omega, rfl, rfl, HS.out _ hw3⟩
      case measure => simp [intOf]

theorem divs_any (v : Value) (n b : Nat) (w : World) (hv : NatV w v n) (hl : (digs B32 n).length ≤ 1000000) (hb0 : 0 < b) (hb1 : b ≤ 4294967295) :
    Calls Tryd.prog 42 #[v, .int .u32 (b : Int)] w fun e w' => ∃ x, e = .returned (.tuple #[x, .int .u32 ((n % b : Nat) : Int)]) ∧ NatV w' x (n / b) ∧ Below w.heap.size w w' := by
  obtain ⟨P, c, rfl, hp⟩ := hv.digp
  have := divs_core P c b _ w hp (digs_lt b32_2 n) hl hb0 hb1
  rwa [val_digs b32_2] at this

end Go.Proofs.YtepljhpamconbaaDoor
