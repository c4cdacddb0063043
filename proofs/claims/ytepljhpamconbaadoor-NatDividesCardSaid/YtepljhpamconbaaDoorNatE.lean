/- Add. -/
import Derived.Test.YtepljhpamconbaaDoorNatD
namespace Go.Proofs.YtepljhpamconbaaDoor
open Go.RowKit

/-- The state of Add's loop: place k is next, cy is carried. -/
structure AddAt (W0 : World) (D : Nat) (ds es : List Nat) (k cy : Nat) (wr : World) : Prop where
  arr : ∃ xs : List Nat, Arr wr D xs ∧ xs.length = ds.length + 1 ∧ (∀ x ∈ xs, x < B32) ∧ val B32 (xs.take k) + B32 ^ k * cy = val B32 (ds.take k) + val B32 (es.take k)
  old : Below D W0 wr
  cy1 : cy ≤ 1
theorem add_step {W0 wr : World} {D : Nat} {ds es : List Nat} {k cy x y : Nat} (h : AddAt W0 D ds es k cy wr) (hk : k < ds.length) (hx : ds[k] = x) (hy : val B32 (es.take (k + 1)) = val B32 (es.take k) + B32 ^ k * y) (hx1 : x ≤ 4294967295) (hy1 : y ≤ 4294967295) :
    AddAt W0 D ds es (k + 1) ((x + y + cy) / 4294967296) (wr.setCell ⟨D, k, none⟩ (.int .u32 (((x + y + cy) % 4294967296 : Nat) : Int))) := by
  have hcy := h.cy1
  obtain ⟨⟨xs, h1, h2, h3, h4⟩, h5, h6⟩ := h
  refine ⟨⟨xs.set k ((x + y + cy) % 4294967296), h1.store _ _, by simpa using h2, all_set h3 (by rw [b32]; omega), ?_⟩, h5.setCell (p := ⟨D, k, none⟩) (Nat.le_refl _) _, by omega⟩
  have hp : B32 ^ (k + 1) = B32 ^ k * 4294967296 := by rw [Nat.pow_succ, b32]
  rw [val_take_set (by omega), val_take_succ hk, hy, hx, hp]
  generalize B32 ^ k = p at *
  have e : p * (x + y + cy) = p * ((x + y + cy) % 4294967296) + p * 4294967296 * ((x + y + cy) / 4294967296) := by
    rw [Nat.mul_assoc, ← Nat.mul_add, Nat.mod_add_div]
  rw [Nat.mul_add, Nat.mul_add] at e
  omega
theorem es_here {es : List Nat} {k : Nat} (h : k < es.length) : val B32 (es.take (k + 1)) = val B32 (es.take k) + B32 ^ k * es[k] := val_take_succ h
theorem es_gone {es : List Nat} {k : Nat} (h : es.length ≤ k) : val B32 (es.take (k + 1)) = val B32 (es.take k) + B32 ^ k * 0 := by
  rw [List.take_of_length_le (by omega), List.take_of_length_le h]; simp

/-- The boxes of two numbers and a result. -/
theorem box3_head (s s' : Value) (w : World) : ∃ W1, W1 = ((w.alloc (.cells #[s] 26)).alloc (.cells #[s'] 26)).alloc (.cells #[.slice none 0 0] 26) ∧ W1.heap.size = w.heap.size + 3 ∧ W1.heap[w.heap.size]? = some (.cells #[s] 26) ∧ W1.heap[w.heap.size + 1]? = some (.cells #[s'] 26) ∧
    W1.heap[w.heap.size + 1 + 1]? = some (.cells #[.slice none 0 0] 26) ∧ Below w.heap.size w W1 := by
  obtain ⟨W0, h0, h1, h2, h3, h4⟩ := box2_head s s' 26 26 w
  refine ⟨_, rfl, by simp, ?_, ?_, ?_, ?_⟩
  · rw [← h0]; exact (Below.heap_alloc _ _ _ (by omega)).trans h2
  · rw [← h0]; exact (Below.heap_alloc _ _ _ (by omega)).trans h3
  · rw [← h0]
    have := heap_new W0 (.cells #[.slice none 0 0] 26)
    rw [h1] at this
    exact this
  · rw [← h0]; exact h4.alloc (by omega) _

theorem box_swap {w W0 : World} {x y r : Value} {t : TypeId} (k0 : W0.heap[w.heap.size]? = some (.cells #[x] t)) (k1 : W0.heap[w.heap.size + 1]? = some (.cells #[y] t)) (k2 : W0.heap[w.heap.size + 1 + 1]? = some (.cells #[r] t)) (hb : Below w.heap.size w W0) :
    ∃ W1, W1 = (W0.setCell ⟨w.heap.size, 0, none⟩ y).setCell ⟨w.heap.size + 1, 0, none⟩ x ∧ W1.heap[w.heap.size]? = some (.cells #[y] t) ∧ W1.heap[w.heap.size + 1]? = some (.cells #[x] t) ∧ W1.heap[w.heap.size + 1 + 1]? = some (.cells #[r] t) ∧ Below w.heap.size w W1 ∧ W1.heap.size = W0.heap.size := by
  refine ⟨_, rfl, ?_, ?_, ?_, ?_, ?_⟩
  · rw [setCell_far _ (by omega)]; exact box_store k0 y
  · exact box_store (by rw [setCell_far _ (by omega)]; exact k1) x
  · rw [setCell_far _ (by omega), setCell_far _ (by omega)]; exact k2
  · exact (hb.setCell (p := ⟨w.heap.size, 0, none⟩) (Nat.le_refl _) _).setCell (p := ⟨w.heap.size + 1, 0, none⟩) (by show _ ≤ w.heap.size + 1; omega) _
  · simp [World.setCell]
theorem trim_arr {w : World} {D : Nat} {xs : List Nat} (h : Arr w D xs) (hb : ∀ x ∈ xs, x < B32) (hl : xs.length ≤ 1000000) :
    Calls Tryd.prog 41 #[.slice (some ⟨D, 0, none⟩) xs.length xs.length] w fun e w' => ∃ p c, e = .returned (.agg #[.slice p (digs B32 (val B32 xs)).length c]) ∧ NatV w' (.agg #[.slice p (digs B32 (val B32 xs)).length c]) (val B32 xs) ∧ Below w.heap.size w w' :=
  (trim_any _ xs w (.inr ⟨D, _, rfl, h.dig, Nat.le_refl _, by omega⟩) hb hl).mono fun e w' ⟨v, h1, h2, h3⟩ => by
    obtain ⟨p, c, rfl, _⟩ := h2.dig
    exact ⟨p, c, h1, h2, h3⟩

set_option maxRecDepth 100000 in
set_option maxHeartbeats 2000000 in
theorem add_core (P Q : Option Addr) (c c' : Nat) (ds es : List Nat) (w : World) (hd : DigP w P ds) (he : DigP w Q es) (h1 : ∀ d ∈ ds, d < B32) (h2 : ∀ d ∈ es, d < B32) (hl : ds.length < 1000000) (hle : es.length ≤ ds.length) :
    Calls Tryd.prog 32 #[.agg #[.slice P ds.length c], .agg #[.slice Q es.length c']] w fun e w' => ∃ v, e = .returned v ∧ NatV w' v (val B32 ds + val B32 es) ∧ Below w.heap.size w w' := by
  obtain ⟨i0, hi, hz0, hz1, hz2⟩ := info_parts infoU
  have H1 := hid h1
  have H2 := hid h2
  have hge : ¬ (ds.length : Int) < (es.length : Int) := by omega
  clear h1 h2
  go_enter Tryd.func32, Tryd.ntmps32
  go_upto_region 1 with (fail)
  obtain ⟨W1, hW1, hsz, kA, kB, kR, hWb⟩ := box3_head (.slice P ds.length c) (.slice Q es.length c') w
  have hd1 := hd.below hWb
  have he1 := he.below hWb
  rw [← hW1]
  have b1 : w.heap.size < W1.heap.size := by omega
  have b2 : w.heap.size + 1 < W1.heap.size := by omega
  have b3 : w.heap.size + 1 + 1 < W1.heap.size := by omega
  clear hW1 hsz hd he
  have a0 := cell_box1 kA
  have a1 := cell_box1 kB
  go_wp2_with (at_make; refine wpList_make_full _ rfl _ _ _ rfl W1.heap.size 69 i0 _ 1 Tryd.underlying22 hi hz0 hz1 _ _ _ _ (ds.length + 1) rfl rfl (by simp) (by simp) (by rw [hz2]; omega) (by unfold maxLen; omega) (Nat.le_refl _) ?_; intro w2 hown hgr; have hb2 : Below W1.heap.size W1 w2 := (Below.refl _ W1).grown hgr (Nat.le_refl _) (by simp); have hA := arr_made hown; clear hown hgr; have hcc := cellsBelow hb2)
  clear hcc
  have hA0 : AddAt W1 W1.heap.size ds es 0 0 w2 := ⟨⟨_, hA, by simp, fun x hx => by rw [List.eq_of_mem_replicate hx, b32]; omega, by simp [val]⟩, hb2, by omega⟩
  clear hA hb2
  go_loopw [6, 27] (fun cy i wr => ∃ k cn : Nat, k ≤ ds.length ∧ i = .int .i64 k ∧ cy = .int .u32 (cn : Int) ∧ AddAt W1 W1.heap.size ds es k cn wr) (fun _ i _ => ds.length - (intOf i).toNat)
  case atStart => exact ⟨0, 0, Nat.zero_le _, rfl, rfl, hA0⟩
  case round =>
    clear hA0
    obtain ⟨k, cn, hk, rfl, rfl, hat⟩ := hrel
    have hcc := cellsBelow hat.old
    by_cases hlt : k < ds.length
    · obtain ⟨g, rfl, hdg⟩ := hd1.at hlt
      have hgl := hdg.lt
      have g0 := hdg.at0 k hlt
      have hx1 : ds[k] ≤ 4294967295 := by have := H1.out _ (List.getElem_mem hlt); rw [b32] at this; omega
      obtain ⟨x, hx⟩ : ∃ x, ds[k] = x := ⟨_, rfl⟩
      rw [hx] at g0 hx1
      have HX := hid hx
      have hcy := hat.cy1
      obtain ⟨xs, hxs, hxl, _⟩ := hat.arr
      have hfr := hxs.free
      have c0 := hxs.cell k (by omega)
      clear hx
      by_cases hlt2 : k < es.length
      · obtain ⟨g', rfl, heg⟩ := he1.at hlt2
        have hgl' := heg.lt
        have g1 := heg.at0 k hlt2
        have hy1 : es[k] ≤ 4294967295 := by have := H2.out _ (List.getElem_mem hlt2); rw [b32] at this; omega
        have HS := hid (add_step hat hlt HX.out (es_here hlt2) hx1 hy1)
        obtain ⟨y, hy⟩ : ∃ y, es[k] = y := ⟨_, rfl⟩
        rw [hy] at g1 hy1 HS
        clear hy
        go_wp2_with (go_at_call 53; refine (add32_any x y cn _ hx1 hy1 hcy).mono ?_; rintro e w' ⟨rfl, rfl⟩)
        go_roundw
        case rel => exact ⟨k + 1, _, by omega, by go_num, rfl, HS.out⟩
        case measure => simp [intOf]; omega
      · have HS := hid (add_step hat hlt HX.out (es_gone (Nat.le_of_not_lt hlt2)) hx1 (by omega : 0 ≤ 4294967295))
        have hge2 : ¬ (k : Int) < (es.length : Int) := by omega
        go_wp2_with (go_at_call 53; refine (add32_any x 0 cn _ hx1 (by omega) hcy).mono ?_; rintro e w' ⟨rfl, rfl⟩)
        go_roundw
        case rel => exact ⟨k + 1, _, by omega, by go_num, rfl, HS.out⟩
        case measure => simp [intOf]; omega
    · obtain rfl : k = ds.length := by omega
      obtain ⟨xs, hxs, hxl, hxb, hxv⟩ := hat.arr
      have hfr := hxs.free
      have c0 := hxs.cell ds.length (by omega)
      have hold := hat.old
      clear hcc
      have hcc := cellsBelow hold
      have HV := hid (show val B32 (xs.set ds.length cn) = val B32 ds + val B32 es by
        have e1 := val_take_set (B := B32) (v := cn) (show ds.length < xs.length by omega)
        rw [List.take_of_length_le (by rw [List.length_set]; omega)] at e1
        rw [e1, hxv, List.take_length, List.take_of_length_le (l := es) hle])
      have hxs' := hxs.store ds.length cn
      have hb' := hold.setCell (p := ⟨W1.heap.size, ds.length, none⟩) (Nat.le_refl _) (.int .u32 (cn : Int))
      have HT := hid (trim_arr hxs' (all_set hxb (by have := hat.cy1; rw [b32]; omega)) (by simp; omega))
      have hl' : (xs.set ds.length cn).length = ds.length + 1 := by simp [hxl]
      rw [HV.out, hl'] at HT
      clear hxv hat
      go_wp2_with (go_at_call 41; refine HT.out.mono ?_; clear HT; rintro e w3 ⟨p, c3, rfl, hv, hw3⟩; have hb3 := hb'.trans (hw3.mono hb'.size); have hR2 := (hb3.block _ b3).trans kR; have hc2 := cell_box1 hR2; have hf2 := free_box1 hR2)
      have hc3 := res_store hR2 (.slice p (digs B32 (val B32 ds + val B32 es)).length c3)
      refine bodyPost_ret (v := .agg #[.slice p (digs B32 (val B32 ds + val B32 es)).length c3]) (by simp [results, Tryd.results32, go_sem, hc3]) rfl ⟨_, rfl, hv.store hc2 _, ?_⟩
      exact (hWb.trans (hb3.mono (by omega))).setCell (p := ⟨w.heap.size + 1 + 1, 0, none⟩) (by show _ ≤ w.heap.size + 1 + 1; omega) _

set_option maxRecDepth 100000 in
set_option maxHeartbeats 2000000 in
theorem add_swap (P Q : Option Addr) (c c' : Nat) (ds es : List Nat) (w : World) (hd : DigP w P ds) (he : DigP w Q es) (h1 : ∀ d ∈ ds, d < B32) (h2 : ∀ d ∈ es, d < B32) (hl : ds.length < 1000000) (hlt0 : es.length < ds.length) :
    Calls Tryd.prog 32 #[.agg #[.slice Q es.length c'], .agg #[.slice P ds.length c]] w fun e w' => ∃ v, e = .returned v ∧ NatV w' v (val B32 ds + val B32 es) ∧ Below w.heap.size w w' := by
  obtain ⟨i0, hi, hz0, hz1, hz2⟩ := info_parts infoU
  have H1 := hid h1
  have H2 := hid h2
  have hle : es.length ≤ ds.length := by omega
  clear h1 h2
  go_enter Tryd.func32, Tryd.ntmps32
  go_upto_region 1 with (fail)
  obtain ⟨W0, hW0, hsz, kA0, kB0, kR0, hWb0⟩ := box3_head (.slice Q es.length c') (.slice P ds.length c) w
  rw [← hW0]
  have b1 : w.heap.size < W0.heap.size := by omega
  have b2 : w.heap.size + 1 < W0.heap.size := by omega
  have b3 : w.heap.size + 1 + 1 < W0.heap.size := by omega
  clear hW0 hsz
  have a00 := cell_box1 kA0
  have a10 := cell_box1 kB0
  have f00 := free_box1 kA0
  have f10 := free_box1 kB0
  have hne : w.heap.size + 1 ≠ w.heap.size := by omega
  have hne' : w.heap.size ≠ w.heap.size + 1 := by omega
  have hlti : (es.length : Int) < (ds.length : Int) := by omega
  go_upto_region 3 with (fail)
  obtain ⟨W1, hW1, kA, kB, kR, hWb, hsz⟩ := box_swap kA0 kB0 kR0 hWb0
  rw [← hW1]
  have hd1 := hd.below hWb
  have he1 := he.below hWb
  rw [← hsz] at b1 b2 b3
  clear hW1 hsz hd he a00 a10 f00 f10 kA0 kB0 kR0 hWb0
  have a0 := cell_box1 kA
  have a1 := cell_box1 kB
  go_wp2_with (at_make; refine wpList_make_full _ rfl _ _ _ rfl W1.heap.size 69 i0 _ 1 Tryd.underlying22 hi hz0 hz1 _ _ _ _ (ds.length + 1) rfl rfl (by simp) (by simp) (by rw [hz2]; omega) (by unfold maxLen; omega) (Nat.le_refl _) ?_; intro w2 hown hgr; have hb2 : Below W1.heap.size W1 w2 := (Below.refl _ W1).grown hgr (Nat.le_refl _) (by simp); have hA := arr_made hown; clear hown hgr; have hcc := cellsBelow hb2)
  clear hcc
  have hA0 : AddAt W1 W1.heap.size ds es 0 0 w2 := ⟨⟨_, hA, by simp, fun x hx => by rw [List.eq_of_mem_replicate hx, b32]; omega, by simp [val]⟩, hb2, by omega⟩
  clear hA hb2
  go_loopw [6, 27] (fun cy i wr => ∃ k cn : Nat, k ≤ ds.length ∧ i = .int .i64 k ∧ cy = .int .u32 (cn : Int) ∧ AddAt W1 W1.heap.size ds es k cn wr) (fun _ i _ => ds.length - (intOf i).toNat)
  case atStart => exact ⟨0, 0, Nat.zero_le _, rfl, rfl, hA0⟩
  case round =>
    clear hA0
    obtain ⟨k, cn, hk, rfl, rfl, hat⟩ := hrel
    have hcc := cellsBelow hat.old
    by_cases hlt : k < ds.length
    · obtain ⟨g, rfl, hdg⟩ := hd1.at hlt
      have hgl := hdg.lt
      have g0 := hdg.at0 k hlt
      have hx1 : ds[k] ≤ 4294967295 := by have := H1.out _ (List.getElem_mem hlt); rw [b32] at this; omega
      obtain ⟨x, hx⟩ : ∃ x, ds[k] = x := ⟨_, rfl⟩
      rw [hx] at g0 hx1
      have HX := hid hx
      have hcy := hat.cy1
      obtain ⟨xs, hxs, hxl, _⟩ := hat.arr
      have hfr := hxs.free
      have c0 := hxs.cell k (by omega)
      clear hx
      by_cases hlt2 : k < es.length
      · obtain ⟨g', rfl, heg⟩ := he1.at hlt2
        have hgl' := heg.lt
        have g1 := heg.at0 k hlt2
        have hy1 : es[k] ≤ 4294967295 := by have := H2.out _ (List.getElem_mem hlt2); rw [b32] at this; omega
        have HS := hid (add_step hat hlt HX.out (es_here hlt2) hx1 hy1)
        obtain ⟨y, hy⟩ : ∃ y, es[k] = y := ⟨_, rfl⟩
        rw [hy] at g1 hy1 HS
        clear hy
        go_wp2_with (go_at_call 53; refine (add32_any x y cn _ hx1 hy1 hcy).mono ?_; rintro e w' ⟨rfl, rfl⟩)
        go_roundw
        case rel => exact ⟨k + 1, _, by omega, by go_num, rfl, HS.out⟩
        case measure => simp [intOf]; omega
      · have HS := hid (add_step hat hlt HX.out (es_gone (Nat.le_of_not_lt hlt2)) hx1 (by omega : 0 ≤ 4294967295))
        have hge2 : ¬ (k : Int) < (es.length : Int) := by omega
        go_wp2_with (go_at_call 53; refine (add32_any x 0 cn _ hx1 (by omega) hcy).mono ?_; rintro e w' ⟨rfl, rfl⟩)
        go_roundw
        case rel => exact ⟨k + 1, _, by omega, by go_num, rfl, HS.out⟩
        case measure => simp [intOf]; omega
    · obtain rfl : k = ds.length := by omega
      obtain ⟨xs, hxs, hxl, hxb, hxv⟩ := hat.arr
      have hfr := hxs.free
      have c0 := hxs.cell ds.length (by omega)
      have hold := hat.old
      clear hcc
      have hcc := cellsBelow hold
      have HV := hid (show val B32 (xs.set ds.length cn) = val B32 ds + val B32 es by
        have e1 := val_take_set (B := B32) (v := cn) (show ds.length < xs.length by omega)
        rw [List.take_of_length_le (by rw [List.length_set]; omega)] at e1
        rw [e1, hxv, List.take_length, List.take_of_length_le (l := es) hle])
      have hxs' := hxs.store ds.length cn
      have hb' := hold.setCell (p := ⟨W1.heap.size, ds.length, none⟩) (Nat.le_refl _) (.int .u32 (cn : Int))
      have HT := hid (trim_arr hxs' (all_set hxb (by have := hat.cy1; rw [b32]; omega)) (by simp; omega))
      have hl' : (xs.set ds.length cn).length = ds.length + 1 := by simp [hxl]
      rw [HV.out, hl'] at HT
      clear hxv hat
      go_wp2_with (go_at_call 41; refine HT.out.mono ?_; clear HT; rintro e w3 ⟨p, c3, rfl, hv, hw3⟩; have hb3 := hb'.trans (hw3.mono hb'.size); have hR2 := (hb3.block _ b3).trans kR; have hc2 := cell_box1 hR2; have hf2 := free_box1 hR2)
      have hc3 := res_store hR2 (.slice p (digs B32 (val B32 ds + val B32 es)).length c3)
      refine bodyPost_ret (v := .agg #[.slice p (digs B32 (val B32 ds + val B32 es)).length c3]) (by simp [results, Tryd.results32, go_sem, hc3]) rfl ⟨_, rfl, hv.store hc2 _, ?_⟩
      exact (hWb.trans (hb3.mono (by omega))).setCell (p := ⟨w.heap.size + 1 + 1, 0, none⟩) (by show _ ≤ w.heap.size + 1 + 1; omega) _

theorem add_any (v u : Value) (n m : Nat) (w : World) (hv : NatV w v n) (hu : NatV w u m) (h1 : (digs B32 n).length < 1000000) (h2 : (digs B32 m).length < 1000000) :
    Calls Tryd.prog 32 #[v, u] w fun e w' => ∃ x, e = .returned x ∧ NatV w' x (n + m) ∧ Below w.heap.size w w' := by
  obtain ⟨P, c, rfl, hp⟩ := hv.digp
  obtain ⟨Q, c', rfl, hq⟩ := hu.digp
  by_cases hle : (digs B32 m).length ≤ (digs B32 n).length
  · have := add_core P Q c c' _ _ w hp hq (digs_lt b32_2 n) (digs_lt b32_2 m) h1 hle
    rwa [val_digs b32_2, val_digs b32_2] at this
  · have := add_swap Q P c' c _ _ w hq hp (digs_lt b32_2 m) (digs_lt b32_2 n) h2 (by omega)
    rwa [val_digs b32_2, val_digs b32_2, Nat.add_comm m n] at this

end Go.Proofs.YtepljhpamconbaaDoor
