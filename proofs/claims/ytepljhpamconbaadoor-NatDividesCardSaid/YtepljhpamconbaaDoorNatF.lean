/- Sub. -/
import Derived.Test.YtepljhpamconbaaDoorNatE
namespace Go.Proofs.YtepljhpamconbaaDoor
open Go.RowKit

theorem not_bit (x : Nat) : (4294967295 ^^^ x).testBit 31 = !x.testBit 31 := by
  rw [Nat.testBit_xor, show Nat.testBit 4294967295 31 = true from by decide]; simp
theorem bit_top (v : Nat) (hv : v < 4294967296) : v / 2147483648 = if v.testBit 31 then 1 else 0 := by
  rw [Nat.testBit_eq_decide_div_mod_eq]
  by_cases h : v / 2 ^ 31 % 2 = 1
  · simp only [h, decide_true, if_true]; omega
  · simp only [h, decide_false, Bool.false_eq_true, if_false]; omega
theorem borrow_bit (x y b : Nat) (hx : x < 4294967296) (hy : y < 4294967296) (hb : b ≤ 1) :
    (((4294967295 ^^^ x) &&& y) ||| ((4294967295 ^^^ (x ^^^ y)) &&& ((x + 4294967296 - y - b) % 4294967296))) / 2147483648 = if x < y + b then 1 else 0 := by
  have hd : (x + 4294967296 - y - b) % 4294967296 < 4294967296 := Nat.mod_lt _ (by omega)
  have hxy : x ^^^ y < 4294967296 := Nat.xor_lt_two_pow (n := 32) hx hy
  rw [bit_top _ (Nat.or_lt_two_pow (n := 32) (Nat.and_lt_two_pow _ hy) (Nat.and_lt_two_pow _ hd)), Nat.testBit_or, Nat.testBit_and, Nat.testBit_and, not_bit, not_bit, Nat.testBit_xor]
  generalize hdd : (x + 4294967296 - y - b) % 4294967296 = d at *
  simp only [Nat.testBit_eq_decide_div_mod_eq]
  by_cases h1 : x / 2 ^ 31 % 2 = 1 <;> by_cases h2 : y / 2 ^ 31 % 2 = 1 <;> by_cases h3 : d / 2 ^ 31 % 2 = 1 <;> simp [h1, h2, h3] <;> omega

/-- The borrow as the text computes it. -/
def borrowI (x y : Int) (d : Int) : Int := bits BinOp.or IntKind.u32 (bits BinOp.and IntKind.u32 (bits BinOp.xor IntKind.u32 IntKind.u32.max x) y) (bits BinOp.and IntKind.u32 (bits BinOp.xor IntKind.u32 IntKind.u32.max (bits BinOp.xor IntKind.u32 x y)) d) / 2147483648
theorem borrow_nat (x y b : Nat) (hx : x < 4294967296) (hy : y < 4294967296) (hb : b ≤ 1) : borrowI x y (((x : Int) - y - b) % 4294967296) = ((if x < y + b then 1 else 0 : Nat) : Int) := by
  have hd : (x + 4294967296 - y - b) % 4294967296 < 4294967296 := Nat.mod_lt _ (by omega)
  have hxy : x ^^^ y < 4294967296 := Nat.xor_lt_two_pow (n := 32) hx hy
  have hm : ∀ z : Nat, z < 4294967296 → 4294967295 ^^^ z < 4294967296 := fun z hz => Nat.xor_lt_two_pow (n := 32) (by omega) hz
  have h := borrow_bit x y b hx hy hb
  have e : ((x : Int) - y - b) % 4294967296 = (((x + 4294967296 - y - b) % 4294967296 : Nat) : Int) := by omega
  have em : IntKind.u32.max = ((4294967295 : Nat) : Int) := by decide
  unfold borrowI
  rw [e, em, u32_xor_nat _ _ (by omega) hx, u32_and_nat _ _ (hm _ hx) hy, u32_xor_nat _ _ hx hy, u32_xor_nat _ _ (by omega) hxy, u32_and_nat _ _ (hm _ hxy) hd, u32_or_nat _ _ (Nat.and_lt_two_pow (n := 32) _ hy) (Nat.and_lt_two_pow (n := 32) _ hd), ← h]
  omega
set_option maxHeartbeats 1000000 in
theorem sub32_raw (x y b : Nat) (w : World) (hx : x ≤ 4294967295) (hy : y ≤ 4294967295) (hb : b ≤ 1) :
    Calls Tryd.prog 54 #[.int .u32 (x : Int), .int .u32 (y : Int), .int .u32 (b : Int)] w fun e w' => e = .returned (.tuple #[.int .u32 (((x : Int) - y - b) % 4294967296), .int .u32 (borrowI x y (((x : Int) - y - b) % 4294967296))]) ∧ w = w' := by
  go_enter Tryd.func54, Tryd.ntmps54
  go_wp2
  go_ret2
  exact ⟨rfl, rfl⟩
theorem sub32_any (x y b : Nat) (w : World) (hx : x ≤ 4294967295) (hy : y ≤ 4294967295) (hb : b ≤ 1) :
    Calls Tryd.prog 54 #[.int .u32 (x : Int), .int .u32 (y : Int), .int .u32 (b : Int)] w fun e w' => e = .returned (.tuple #[.int .u32 (((x + 4294967296 - y - b) % 4294967296 : Nat) : Int), .int .u32 ((if x < y + b then 1 else 0 : Nat) : Int)]) ∧ w = w' :=
  (sub32_raw x y b w hx hy hb).mono fun e w' ⟨h1, h2⟩ => ⟨by
    rw [h1, borrow_nat x y b (by omega) (by omega) hb, show ((x : Int) - y - b) % 4294967296 = (((x + 4294967296 - y - b) % 4294967296 : Nat) : Int) by omega], h2⟩

/-- The state of Sub's loop: place k is next, b is borrowed. -/
structure SubAt (W0 : World) (D : Nat) (ds es : List Nat) (k b : Nat) (wr : World) : Prop where
  arr : ∃ xs : List Nat, Arr wr D xs ∧ xs.length = ds.length ∧ (∀ x ∈ xs, x < B32) ∧ val B32 (xs.take k) + val B32 (es.take k) = val B32 (ds.take k) + B32 ^ k * b
  old : Below D W0 wr
  b1 : b ≤ 1
theorem sub_step {W0 wr : World} {D : Nat} {ds es : List Nat} {k b x y : Nat} (h : SubAt W0 D ds es k b wr) (hk : k < ds.length) (hx : ds[k] = x) (hy : val B32 (es.take (k + 1)) = val B32 (es.take k) + B32 ^ k * y) (hx1 : x ≤ 4294967295) (hy1 : y ≤ 4294967295) :
    SubAt W0 D ds es (k + 1) (if x < y + b then 1 else 0) (wr.setCell ⟨D, k, none⟩ (.int .u32 (((x + 4294967296 - y - b) % 4294967296 : Nat) : Int))) := by
  have hcy := h.b1
  obtain ⟨⟨xs, h1, h2, h3, h4⟩, h5, h6⟩ := h
  refine ⟨⟨xs.set k ((x + 4294967296 - y - b) % 4294967296), h1.store _ _, by simpa using h2, all_set h3 (by rw [b32]; omega), ?_⟩, h5.setCell (p := ⟨D, k, none⟩) (Nat.le_refl _) _, by split <;> omega⟩
  have hp : B32 ^ (k + 1) = B32 ^ k * 4294967296 := by rw [Nat.pow_succ, b32]
  rw [val_take_set (by omega), val_take_succ hk, hy, hx, hp]
  generalize B32 ^ k = p at *
  by_cases hlt : x < y + b
  · rw [if_pos hlt, show (x + 4294967296 - y - b) % 4294967296 = x + 4294967296 - y - b by omega]
    have e : p * (x + 4294967296 - y - b) + p * y + p * b = p * x + p * 4294967296 := by
      rw [← Nat.mul_add, ← Nat.mul_add, ← Nat.mul_add]; congr 1; omega
    omega
  · rw [if_neg hlt, show (x + 4294967296 - y - b) % 4294967296 = x - y - b by omega]
    have e : p * (x - y - b) + p * y + p * b = p * x := by
      rw [← Nat.mul_add, ← Nat.mul_add]; congr 1; omega
    omega

set_option maxRecDepth 100000 in
set_option maxHeartbeats 2000000 in
theorem sub_core (P Q : Option Addr) (c c' : Nat) (ds es : List Nat) (w : World) (hd : DigP w P ds) (he : DigP w Q es) (h1 : ∀ d ∈ ds, d < B32) (h2 : ∀ d ∈ es, d < B32) (hl : ds.length < 1000000) (hle : es.length ≤ ds.length) (hcmp : ∀ w1, Below w.heap.size w w1 → Calls Tryd.prog 17 #[.agg #[.slice P ds.length c], .agg #[.slice Q es.length c']] w1 fun e w' => ∃ j : Int, 0 ≤ j ∧ e = .returned (.int .i64 j) ∧ Below w1.heap.size w1 w') (hv : val B32 es ≤ val B32 ds) :
    Calls Tryd.prog 33 #[.agg #[.slice P ds.length c], .agg #[.slice Q es.length c']] w fun e w' => ∃ v, e = .returned (.tuple #[v, .int .i64 0]) ∧ NatV w' v (val B32 ds - val B32 es) ∧ Below w.heap.size w w' := by
  obtain ⟨i0, hi, hz0, hz1, hz2⟩ := info_parts infoU
  have H1 := hid h1
  have H2 := hid h2
  have HC := hid hcmp
  have HVL := hid hv
  clear h1 h2 hcmp hv
  go_enter Tryd.func33, Tryd.ntmps33
  go_upto_region 1 with (fail)
  obtain ⟨W0, hW0, hsz, kA0, kB0, kR0, hWb0⟩ := box3_head (.slice P ds.length c) (.slice Q es.length c') w
  rw [← hW0]
  have b1 : w.heap.size < W0.heap.size := by omega
  have b2 : w.heap.size + 1 < W0.heap.size := by omega
  have b3 : w.heap.size + 1 + 1 < W0.heap.size := by omega
  clear hW0 hsz
  have a00 := cell_box1 kA0
  have a10 := cell_box1 kB0
  have HCW := hid (HC.out W0 hWb0)
  go_upto_region 3 with (go_at_call 17; refine HCW.out.mono ?_; clear HCW; rintro e W1 ⟨j, hj, rfl, hw1⟩; have hjn : ¬ (j < 0) := (by omega))
  have kA := (hw1.block _ b1).trans kA0
  have kB := (hw1.block _ b2).trans kB0
  have kR := (hw1.block _ b3).trans kR0
  have hWb := hWb0.trans (hw1.mono hWb0.size)
  have hd1 := hd.below hWb
  have he1 := he.below hWb
  have hs1 := hw1.size
  replace b1 := Nat.lt_of_lt_of_le b1 hs1
  replace b2 := Nat.lt_of_lt_of_le b2 hs1
  replace b3 := Nat.lt_of_lt_of_le b3 hs1
  clear hd he a00 a10 kA0 kB0 kR0 hWb0 HC hw1 hs1
  have a0 := cell_box1 kA
  have a1 := cell_box1 kB
  go_wp2_with (at_make; refine wpList_make_full _ rfl _ _ _ rfl W1.heap.size 69 i0 _ 1 Tryd.underlying22 hi hz0 hz1 _ _ _ _ ds.length rfl rfl (by simp) (by simp) (by rw [hz2]; omega) (by unfold maxLen; omega) (Nat.le_refl _) ?_; intro w2 hown hgr; have hb2 : Below W1.heap.size W1 w2 := (Below.refl _ W1).grown hgr (Nat.le_refl _) (by simp); have hA := arr_made hown; clear hown hgr; have hcc := cellsBelow hb2)
  clear hcc
  have hA0 : SubAt W1 W1.heap.size ds es 0 0 w2 := ⟨⟨_, hA, by simp, fun x hx => by rw [List.eq_of_mem_replicate hx, b32]; omega, by simp [val]⟩, hb2, by omega⟩
  clear hA hb2
  go_loopw [7, 23] (fun cy i wr => ∃ k cn : Nat, k ≤ ds.length ∧ i = .int .i64 k ∧ cy = .int .u32 (cn : Int) ∧ SubAt W1 W1.heap.size ds es k cn wr) (fun _ i _ => ds.length - (intOf i).toNat)
  case atStart => exact ⟨0, 0, Nat.zero_le _, rfl, rfl, hA0⟩
  case round =>
    clear hA0
    obtain ⟨k, cn, hk, rfl, rfl, hat⟩ := hrel
    have hcc := cellsBelow hat.old
    by_cases hlt : k < ds.length
    · obtain ⟨g, rfl, hdg⟩ := hd1.at hlt
      have hgl := hdg.lt
      have g0 := hdg.at0 k hlt
      have hx1 : ds[k] ≤ 4294967295 := by have := H1.out _ (List.getElem_mem hlt); rw [b32] at this; omega
      obtain ⟨x, hx⟩ : ∃ x, ds[k] = x := ⟨_, rfl⟩
      rw [hx] at g0 hx1
      have HX := hid hx
      have hcy := hat.b1
      obtain ⟨xs, hxs, hxl, _⟩ := hat.arr
      have hfr := hxs.free
      have c0 := hxs.cell k (by omega)
      clear hx
      by_cases hlt2 : k < es.length
      · obtain ⟨g', rfl, heg⟩ := he1.at hlt2
        have hgl' := heg.lt
        have g1 := heg.at0 k hlt2
        have hy1 : es[k] ≤ 4294967295 := by have := H2.out _ (List.getElem_mem hlt2); rw [b32] at this; omega
        have HS := hid (sub_step hat hlt HX.out (es_here hlt2) hx1 hy1)
        obtain ⟨y, hy⟩ : ∃ y, es[k] = y := ⟨_, rfl⟩
        rw [hy] at g1 hy1 HS
        clear hy
        obtain ⟨bb, hbb⟩ : ∃ bb, (if x < y + cn then 1 else 0) = bb := ⟨_, rfl⟩
        have HB := hid (sub32_any x y cn)
        rw [hbb] at HS HB
        clear hbb
        go_wp2_with (go_at_call 54; refine (HB.out _ hx1 hy1 hcy).mono ?_; clear HB; rintro e w' ⟨rfl, rfl⟩)
        go_roundw
        case rel => exact ⟨k + 1, _, by omega, by go_num, rfl, HS.out⟩
        case measure => simp [intOf]; omega
      · have HS := hid (sub_step hat hlt HX.out (es_gone (Nat.le_of_not_lt hlt2)) hx1 (by omega : 0 ≤ 4294967295))
        have hge2 : ¬ (k : Int) < (es.length : Int) := by omega
        obtain ⟨bb, hbb⟩ : ∃ bb, (if x < 0 + cn then 1 else 0) = bb := ⟨_, rfl⟩
        have HB := hid (sub32_any x 0 cn)
        rw [hbb] at HS HB
        clear hbb
        go_wp2_with (go_at_call 54; refine (HB.out _ hx1 (by omega) hcy).mono ?_; clear HB; rintro e w' ⟨rfl, rfl⟩)
        go_roundw
        case rel => exact ⟨k + 1, _, by omega, by go_num, rfl, HS.out⟩
        case measure => simp [intOf]; omega
    · obtain rfl : k = ds.length := by omega
      obtain ⟨xs, hxs, hxl, hxb, hxv⟩ := hat.arr
      have hold := hat.old
      have hcc := cellsBelow hold
      have HV := hid (show val B32 xs = val B32 ds - val B32 es by
        have hvl := HVL.out
        have hb1 := hat.b1
        rw [← hxl, List.take_length, hxl, List.take_length, List.take_of_length_le (l := es) hle] at hxv
        have h3 := val_lt b32_2 hxb
        rw [hxl] at h3
        generalize B32 ^ ds.length = p at *
        match cn, hb1 with
        | 0, _ => omega
        | 1, _ => omega)
      have HT := hid (trim_arr hxs hxb (by omega))
      rw [HV.out, hxl] at HT
      clear hxv hat
      go_wp2_with (go_at_call 41; refine HT.out.mono ?_; clear HT; rintro e w3 ⟨p, c3, rfl, hv, hw3⟩; have hb3 := hold.trans (hw3.mono hold.size); have hR2 := (hb3.block _ b3).trans kR; have hc2 := cell_box1 hR2; have hf2 := free_box1 hR2)
      have hc3 := res_store hR2 (.slice p (digs B32 (val B32 ds - val B32 es)).length c3)
      refine bodyPost_ret (v := .tuple #[.agg #[.slice p (digs B32 (val B32 ds - val B32 es)).length c3], .int .i64 0]) (by simp [results, Tryd.results33, go_sem, hc3]) rfl ⟨_, rfl, hv.store hc2 _, ?_⟩
      exact (hWb.trans (hb3.mono (by omega))).setCell (p := ⟨w.heap.size + 1 + 1, 0, none⟩) (by show _ ≤ w.heap.size + 1 + 1; omega) _

set_option maxHeartbeats 1000000 in
theorem sub_err (v u : Value) (n m : Nat) (w : World) (hv : NatV w v n) (hu : NatV w u m) (h1 : (digs B32 n).length < 1000000) (h2 : (digs B32 m).length < 1000000) (hlt : n < m) :
    Calls Tryd.prog 33 #[v, u] w fun e w' => e = .returned (.tuple #[.agg #[.slice none 0 0], .int .i64 2]) ∧ Below w.heap.size w w' := by
  have HC := hid (fun w1 (hb : Below w.heap.size w w1) => cmp_any v u n m w1 (hv.below hb) (hu.below hb) (by omega) (by omega))
  rw [cmpN_lt hlt] at HC
  obtain ⟨P, c, rfl, hp⟩ := hv.digp
  obtain ⟨Q, c', rfl, hq⟩ := hu.digp
  clear hp hq hv hu hlt
  go_enter Tryd.func33, Tryd.ntmps33
  go_upto_region 1 with (fail)
  obtain ⟨W0, hW0, hsz, kA0, kB0, kR0, hWb0⟩ := box3_head (.slice P (digs B32 n).length c) (.slice Q (digs B32 m).length c') w
  rw [← hW0]
  have b1 : w.heap.size < W0.heap.size := by omega
  have b2 : w.heap.size + 1 < W0.heap.size := by omega
  have b3 : w.heap.size + 1 + 1 < W0.heap.size := by omega
  clear hW0 hsz
  have a00 := cell_box1 kA0
  have a10 := cell_box1 kB0
  have HCW := hid (HC.out W0 hWb0)
  go_wp2_with (go_at_call 17; refine HCW.out.mono ?_; clear HCW; rintro e W1 ⟨rfl, hw1⟩; have kR := (hw1.block _ b3).trans kR0; have a2 := cell_box1 kR; have f2 := free_box1 kR)
  have hc3 := res_store kR (.slice none 0 0)
  refine bodyPost_ret (v := .tuple #[.agg #[.slice none 0 0], .int .i64 2]) (by simp [results, Tryd.results33, go_sem, hc3]) rfl ⟨rfl, ?_⟩
  exact (hWb0.trans (hw1.mono hWb0.size)).setCell (p := ⟨w.heap.size + 1 + 1, 0, none⟩) (by show _ ≤ w.heap.size + 1 + 1; omega) _

theorem digs_mono {n m : Nat} (h : m ≤ n) : (digs B32 m).length ≤ (digs B32 n).length :=
  Nat.le_of_not_lt fun hlt => absurd (digs_len_mono b32_2 hlt) (by omega)
theorem sub_any (v u : Value) (n m : Nat) (w : World) (hv : NatV w v n) (hu : NatV w u m) (h1 : (digs B32 n).length < 1000000) (h2 : (digs B32 m).length < 1000000) :
    Calls Tryd.prog 33 #[v, u] w fun e w' => ∃ x, e = .returned (.tuple #[x, .int .i64 (if n < m then 2 else 0)]) ∧ NatV w' x (n - m) ∧ Below w.heap.size w w' := by
  by_cases hlt : n < m
  · rw [if_pos hlt]
    refine (sub_err v u n m w hv hu h1 h2 hlt).mono fun e w' ⟨h1, h2⟩ => ⟨_, h1, ?_, h2⟩
    rw [Nat.sub_eq_zero_of_le (by omega)]; exact NatV.zero _
  · rw [if_neg hlt]
    have hc : ∀ w1, Below w.heap.size w w1 → Calls Tryd.prog 17 #[v, u] w1 fun e w' => ∃ j : Int, 0 ≤ j ∧ e = .returned (.int .i64 j) ∧ Below w1.heap.size w1 w' := fun w1 hb =>
      (cmp_any v u n m w1 (hv.below hb) (hu.below hb) (by omega) (by omega)).mono fun e w' ⟨h1, h2⟩ => ⟨cmpN n m, by unfold cmpN; rw [if_neg hlt]; split <;> omega, h1, h2⟩
    obtain ⟨P, c, rfl, hp⟩ := hv.digp
    obtain ⟨Q, c', rfl, hq⟩ := hu.digp
    have := sub_core P Q c c' _ _ w hp hq (digs_lt b32_2 n) (digs_lt b32_2 m) h1 (digs_mono (by omega)) hc (by rw [val_digs b32_2, val_digs b32_2]; omega)
    rwa [val_digs b32_2, val_digs b32_2] at this

end Go.Proofs.YtepljhpamconbaaDoor
