/- extend: a row of digits times a factor plus a number, in place. -/
import Derived.Test.YtepljhpamconbaaDoorNatJ
namespace Go.Proofs.YtepljhpamconbaaDoor
open Go.RowKit

theorem row1_set {W : World} {base n : Nat} {e : TypeId} {g cap : Nat} {xs : List Value} (h : W.ownsRow base e 1 (.slice (some ⟨g, 0, none⟩) n cap) n xs) (k : Nat) (u : Value) (hk : k < n) :
    (W.setCell ⟨g, k, none⟩ u).ownsRow base e 1 (.slice (some ⟨g, 0, none⟩) n cap) n (xs.set k u) := by
  refine ⟨by rw [List.length_set]; exact h.1, .inr ?_⟩
  rcases h.2 with ⟨e0, _⟩ | ⟨g', cap', cur, e0, hg, hb, hle, hm, hs, ht⟩
  · cases e0
  · injection e0 with e1 _ e3
    injection e1 with e1
    injection e1 with e1
    subst e1 e3
    refine ⟨g, cap, cur.setIfInBounds k u, rfl, hg, heap_setCell_at hb u, hle, hm, by rw [Array.size_setIfInBounds]; exact hs, ?_⟩
    rw [← ht, Array.toList_setIfInBounds, List.take_set]
theorem row1_free {W : World} {base n : Nat} {e : TypeId} {g cap : Nat} {xs : List Value} (h : W.ownsRow base e 1 (.slice (some ⟨g, 0, none⟩) n cap) n xs) : ∀ o, W.frozen? ⟨g, o, none⟩ = false := by
  rcases h.2 with ⟨e0, _⟩ | ⟨g', cap', cur, e0, hg, hb, _⟩
  · cases e0
  · injection e0 with e1 _ e3
    injection e1 with e1
    injection e1 with e1
    subst e1
    intro o
    unfold World.frozen?
    rw [show W.heap[(⟨g, o, none⟩ : Addr).block]? = _ from hb]; simp
/-- Digits in a row of one's own. -/
def RowU (W : World) (base : Nat) (v : Value) (ds : List Nat) : Prop := W.ownsRow base 69 1 v ds.length (ds.map uCell)
theorem RowU.digv {W : World} {base : Nat} {v : Value} {ds : List Nat} (h : RowU W base v ds) : DigV W v ds := by
  by_cases hn : ds = []
  · subst hn
    obtain ⟨p, c, e⟩ := row_slice h
    exact .inl ⟨rfl, p, c, e⟩
  · rcases h.2 with ⟨_, h0⟩ | ⟨g, cap, cur, rfl, hg, hb, hle, hm, hs, ht⟩
    · exact absurd (List.eq_nil_of_length_eq_zero h0) hn
    · refine .inr ⟨g, cap, rfl, ⟨(Array.getElem?_eq_some_iff.1 hb).1, fun k hk => ?_⟩, hle, hm⟩
      obtain ⟨g', cap', e0, _, hc⟩ := row1_cell h (by simp) (k := k) (by simpa using hk)
      injection e0 with e1
      injection e1 with e1
      injection e1 with e1
      subst e1
      rw [hc, List.getElem_map]; rfl

theorem one_u (c : Nat) : ∀ u ∈ [uCell c], u.oneCell' = true := by
  intro u hu; simp only [List.mem_cons, List.not_mem_nil, or_false] at hu; rw [hu]; rfl
/-- The state of extend's loop. -/
structure ExtAt (W0 : World) (base : Nat) (p : Option Addr) (cap : Nat) (ds : List Nat) (f c0 k c : Nat) (wr : World) : Prop where
  row : ∃ xs : List Nat, wr.ownsRow base 69 1 (.slice p ds.length cap) ds.length (xs.map uCell) ∧ xs.length = ds.length ∧ (∀ x ∈ xs, x < B32) ∧ xs.drop k = ds.drop k ∧ val B32 (xs.take k) + B32 ^ k * c = val B32 (ds.take k) * f + c0
  old : Below base W0 wr
  cb : c < 1000000000
theorem ext_bound {c d f : Nat} (hc : c < 1000000000) (hd : d ≤ 4294967295) (hf : f ≤ 1000000000) : c + d * f < 4294967296000000000 := by
  have : d * f ≤ 4294967295 * 1000000000 := Nat.mul_le_mul hd hf
  omega
theorem ExtAt.step {W0 wr : World} {base g cap : Nat} {ds : List Nat} {f c0 k c d : Nat} (h : ExtAt W0 base (some ⟨g, 0, none⟩) cap ds f c0 k c wr) (hg : base ≤ g) (hk : k < ds.length) (hd : ds[k] = d) (hd1 : d ≤ 4294967295) (hf : f ≤ 1000000000) :
    ExtAt W0 base (some ⟨g, 0, none⟩) cap ds f c0 (k + 1) ((c + d * f) / 4294967296) (wr.setCell ⟨g, k, none⟩ (.int .u32 (((c + d * f) % 4294967296 : Nat) : Int))) := by
  have hcb := h.cb
  obtain ⟨⟨xs, h1, h2, h3, h4, h5⟩, h6, _⟩ := h
  have hb := ext_bound hcb hd1 hf
  have hlt : k < xs.length := by omega
  refine ⟨⟨xs.set k ((c + d * f) % 4294967296), ?_, by simpa using h2, all_set h3 (by rw [b32]; omega), ?_, ?_⟩, h6.setCell (p := ⟨g, k, none⟩) hg _, by omega⟩
  · rw [List.map_set]; exact row1_set h1 k _ hk
  · rw [List.drop_set_of_lt (by omega)]
    rw [List.drop_eq_getElem_cons hlt, List.drop_eq_getElem_cons hk] at h4
    exact (List.cons.inj h4).2
  · rw [val_take_set hlt, val_take_succ hk, hd, Nat.pow_succ, Nat.add_mul, Nat.mul_assoc (B32 ^ k) B32]
    generalize B32 ^ k = p at *
    have e2 : p * ((c + d * f) % 4294967296) + p * (B32 * ((c + d * f) / 4294967296)) = p * c + p * d * f := by
      rw [← Nat.mul_add, b32, Nat.mod_add_div, Nat.mul_add, Nat.mul_assoc]
    omega

set_option maxRecDepth 100000 in
set_option maxHeartbeats 2000000 in
theorem extend_any (v : Value) (ds : List Nat) (f c0 base : Nat) (w : World) (h : RowU w base v ds) (hlt : ∀ d ∈ ds, d < B32) (hl : ds.length ≤ 100000) (hf : f ≤ 1000000000) (hc : c0 < 1000000000) (hbw : base ≤ w.heap.size) :
    Calls Tryd.prog 40 #[v, .int .u64 (f : Int), .int .u64 (c0 : Int)] w fun e w' => ∃ v' es, e = .returned v' ∧ RowU w' base v' es ∧ (∀ d ∈ es, d < B32) ∧ val B32 es = val B32 ds * f + c0 ∧ es.length ≤ ds.length + 1 ∧ Below base w w' := by
  obtain ⟨i0, hi, hz0, hz1, hz2⟩ := info_parts infoU
  obtain ⟨p, cap, rfl⟩ := row_slice h
  have HL := hid hlt
  have hat0 : ExtAt w base p cap ds f c0 0 c0 w := ⟨⟨ds, h, rfl, hlt, rfl, by simp [val]⟩, Below.refl _ _, hc⟩
  clear hlt h
  go_enter Tryd.func40, Tryd.ntmps40
  go_wp2
  go_loopw [2, 10] (fun cy i wr => ∃ k c : Nat, k ≤ ds.length ∧ i = .int .i64 k ∧ cy = .int .u64 (c : Int) ∧ ExtAt w base p cap ds f c0 k c wr) (fun _ i _ => ds.length - (intOf i).toNat)
  case atStart => exact ⟨0, c0, Nat.zero_le _, rfl, rfl, hat0⟩
  case round =>
    clear hat0
    obtain ⟨k, c, hk, rfl, rfl, hat⟩ := hrel
    have hcb := hat.cb
    by_cases hlt : k < ds.length
    · obtain ⟨xs, hrow, hxl, hxb, hdr, _⟩ := hat.row
      have hkx : k < xs.length := by omega
      obtain ⟨g, cg, e0, hgb, hcell⟩ := row1_cell hrow (by simp [hxl]) (k := k) (by simpa using hkx)
      injection e0 with e1 _ e3
      subst e1 e3
      have hfr := row1_free hrow
      have hd1 : ds[k] ≤ 4294967295 := by have := HL.out _ (List.getElem_mem hlt); rw [b32] at this; omega
      have hxd : xs[k] = ds[k] := by
        rw [List.drop_eq_getElem_cons hkx, List.drop_eq_getElem_cons hlt] at hdr
        exact (List.cons.inj hdr).1
      rw [List.getElem_map, hxd] at hcell
      obtain ⟨d, hd⟩ : ∃ d, ds[k] = d := ⟨_, rfl⟩
      have HS := hid (hat.step hgb hlt hd (by omega) hf)
      rw [hd] at hcell hd1
      unfold uCell at hcell
      have hmb := ext_bound hcb hd1 hf
      have hmb0 : 0 ≤ (d : Int) * (f : Int) := Int.mul_nonneg (by omega) (by omega)
      have hmb2 : (d : Int) * (f : Int) ≤ 18446744073709551615 := by
        have e1 : ((d * f : Nat) : Int) = (d : Int) * (f : Int) := Int.natCast_mul d f
        omega
      obtain ⟨t, ht, ht2⟩ : ∃ t : Nat, c + d * f = t ∧ (c : Int) + (d : Int) * (f : Int) = (t : Int) := ⟨_, rfl, by simp only [Int.natCast_add, Int.natCast_mul]⟩
      rw [ht] at HS hmb
      have hmb1 : (c : Int) + (d : Int) * (f : Int) ≤ 18446744073709551615 := by omega
      clear hd hat hxd hdr ht
      go_upto_region 5 with (fail)
      clear ht2 hmb0 hmb1 hmb2
      go_wp2
      go_roundw
      case rel => exact ⟨k + 1, t / 4294967296, by omega, by go_num, rfl, HS.out⟩
      case measure => simp [intOf]; omega
    · obtain rfl : k = ds.length := by omega
      obtain ⟨xs, hrow, hxl, hxb, _, hxv⟩ := hat.row
      rw [← hxl, List.take_length, hxl, List.take_length] at hxv
      have hold := hat.old
      by_cases hc0 : c = 0
      · subst hc0
        go_wp2
        go_ret
        refine ⟨_, xs, rfl, by unfold RowU; rw [hxl]; exact hrow, hxb, by omega, by omega, hold⟩
      · have hgt : (0 : Int) < (c : Int) := by omega
        have hcm : (c : Int) % 4294967296 = (c : Int) := by omega
        have HV := hid hxv
        clear hxv hat
        go_wp2_with (at_builtin; refine wpList_append_own _ rfl _ _ 22 rfl base 69 i0 _ 1 4 Tryd.underlying22 hi hz0 hz1 hz2 rfl (by decide) _ _ _ rfl (hrow.alloc _) ⟨wr.heap.size, 0, none⟩ 1 1 [uCell c] rfl rfl (cells1_new wr _ _) (one_u _) (by simp [maxLen]; omega) (by omega) (by have := hold.size; simp; omega) ?_; intro v' w7 hown' hgrow _; have hb7 := row1_step hold hrow (Nat.le_refl _) (Nat.le_trans hbw hold.size) hgrow)
        go_ret
        refine ⟨_, xs ++ [c], rfl, ?_, ?_, ?_, by simp; omega, hb7⟩
        · unfold RowU; rw [List.length_append, List.length_singleton, hxl, List.map_append]; exact hown'
        · intro x hx
          rcases List.mem_append.1 hx with h1 | h1
          · exact hxb x h1
          · simp only [List.mem_cons, List.not_mem_nil, or_false] at h1; rw [h1, b32]; omega
        · rw [val_snoc, hxl]; exact HV.out

end Go.Proofs.YtepljhpamconbaaDoor
