/- Numbers as the program holds them; trim, IsZero, Of. -/
import Derived.Test.YtepljhpamconbaaDoorNumPlain
import Derived.Test.YtepljhpamconbaaDoorUtil
namespace Go.Proofs.YtepljhpamconbaaDoor
open Go.RowKit

def B32 : Nat := 4294967296
theorem b32 : B32 = 4294967296 := rfl
theorem b32_2 : 2 ≤ B32 := by decide
/-- Block g holds digits from its head on. -/
structure DigIn (W : World) (g : Nat) (ds : List Nat) : Prop where
  lt : g < W.heap.size
  at0 : ∀ k (h : k < ds.length), W.cell? ⟨g, k, none⟩ = some (.int .u32 (ds[k] : Int))
theorem DigIn.below {W W' : World} {g : Nat} {ds : List Nat} (h : DigIn W g ds) (hb : Below W.heap.size W W') : DigIn W' g ds :=
  ⟨Nat.lt_of_lt_of_le h.lt hb.size, fun k hk => (hb.cell (p := ⟨g, k, none⟩) h.lt).trans (h.at0 k hk)⟩
theorem DigIn.take {W : World} {g : Nat} {ds : List Nat} (h : DigIn W g ds) (n : Nat) : DigIn W g (ds.take n) :=
  ⟨h.lt, fun k hk => by rw [List.length_take] at hk; rw [h.at0 k (by omega)]; simp⟩
/-- A slice of digits. -/
def DigV (W : World) (s : Value) (ds : List Nat) : Prop := (ds = [] ∧ ∃ p c, s = .slice p 0 c) ∨ ∃ g c, s = .slice (some ⟨g, 0, none⟩) ds.length c ∧ DigIn W g ds ∧ ds.length ≤ c ∧ c ≤ 9223372036854775807
theorem DigV.below {W W' : World} {s : Value} {ds : List Nat} (h : DigV W s ds) (hb : Below W.heap.size W W') : DigV W' s ds :=
  h.imp id fun ⟨g, c, e, t, hc⟩ => ⟨g, c, e, t.below hb, hc⟩
/-- A number. -/
def NatV (W : World) (v : Value) (n : Nat) : Prop := (n = 0 ∧ v = .agg #[.slice none 0 0]) ∨ (n ≠ 0 ∧ ∃ g c, v = .agg #[.slice (some ⟨g, 0, none⟩) (digs B32 n).length c] ∧ DigIn W g (digs B32 n) ∧ (digs B32 n).length ≤ c ∧ c ≤ 9223372036854775807)
theorem NatV.below {W W' : World} {v : Value} {n : Nat} (h : NatV W v n) (hb : Below W.heap.size W W') : NatV W' v n :=
  h.imp id fun ⟨h0, g, c, e, t, hc⟩ => ⟨h0, g, c, e, t.below hb, hc⟩
theorem NatV.zero (W : World) : NatV W (.agg #[.slice none 0 0]) 0 := .inl ⟨rfl, rfl⟩
/-- The number's digits. -/
theorem NatV.dig {W : World} {v : Value} {n : Nat} (h : NatV W v n) : ∃ p c, v = .agg #[.slice p (digs B32 n).length c] ∧ DigV W (.slice p (digs B32 n).length c) (digs B32 n) := by
  rcases h with ⟨rfl, rfl⟩ | ⟨_, g, c, rfl, t, hc⟩
  · rw [digs_zero]; exact ⟨none, 0, rfl, .inl ⟨rfl, _, _, rfl⟩⟩
  · exact ⟨_, c, rfl, .inr ⟨g, c, rfl, t, hc⟩⟩
theorem digs_last_ne {n : Nat} (h : n ≠ 0) : digs B32 n ≠ [] := fun e => h ((digs_eq_nil b32_2).1 e)
theorem dig_lt (n : Nat) {k : Nat} (h : k < (digs B32 n).length) : (digs B32 n)[k] ≤ 4294967295 := by
  have h1 := digs_lt b32_2 n _ (List.getElem_mem h)
  have h2 := b32
  omega

set_option maxHeartbeats 400000 in
theorem isZero_any (v : Value) (n : Nat) (w : World) (hv : NatV w v n) :
    Calls Tryd.prog 18 #[v] w fun e w' => e = .returned (.bool (n == 0)) ∧ Below w.heap.size w w' := by
  rcases hv with ⟨rfl, rfl⟩ | ⟨h0, g, c, rfl, hd, _⟩
  · go_enter Tryd.func18, Tryd.ntmps18
    go_wp2
    go_ret
    exact ⟨rfl, (Below.refl _ _).alloc (Nat.le_refl _) _⟩
  · have hl : 0 < (digs B32 n).length := List.length_pos_iff.2 (digs_last_ne h0)
    have hq : ((((digs B32 n).length : Nat) : Int) == 0) = false := by rw [beq_eq_false_iff_ne]; omega
    have HN := hid (show (n == 0) = false by simpa using h0)
    clear h0
    go_enter Tryd.func18, Tryd.ntmps18
    go_wp2
    go_ret
    exact ⟨by rw [HN.out]; rfl, (Below.refl _ _).alloc (Nat.le_refl _) _⟩

/-! ### trim -/
theorem trim_take_zero {ds : List Nat} {k : Nat} (hk : k + 1 ≤ ds.length) (h : ds[k] = 0) : trimD (ds.take (k + 1)) = trimD (ds.take k) := by
  rw [List.take_succ_eq_append_getElem (by omega), h, trimD_zero]
theorem trim_take_last {ds : List Nat} {k : Nat} (hk : k + 1 ≤ ds.length) (h : ds[k] ≠ 0) : trimD (ds.take (k + 1)) = ds.take (k + 1) := by
  rw [List.take_succ_eq_append_getElem (by omega), trimD_last h]
theorem natv_of {W : World} {g : Nat} {ds : List Nat} (hd : DigIn W g ds) (hlt : ∀ d ∈ ds, d < B32) (k : Nat) (hk : k + 1 ≤ ds.length) (h : trimD ds = ds.take (k + 1)) (hm : ds.length ≤ 9223372036854775807) :
    NatV W (.agg #[.slice (some ⟨g, 0, none⟩) (k + 1) (k + 1)]) (val B32 ds) := by
  have e : digs B32 (val B32 ds) = ds.take (k + 1) := by rw [digs_val b32_2 hlt, h]
  have hl : (ds.take (k + 1)).length = k + 1 := by rw [List.length_take]; omega
  refine .inr ⟨fun h0 => ?_, g, k + 1, ?_, ?_, ?_, by omega⟩
  · rw [h0, digs_zero] at e
    rw [← e] at hl; simp at hl
  · rw [e, hl]
  · rw [e]; exact hd.take _
  · rw [e, hl]; exact Nat.le_refl _

set_option maxRecDepth 100000 in
set_option maxHeartbeats 1000000 in
theorem trim_any (s : Value) (ds : List Nat) (w : World) (hs : DigV w s ds) (hlt : ∀ d ∈ ds, d < B32) (hl : ds.length ≤ 1000000) :
    Calls Tryd.prog 41 #[s] w fun e w' => ∃ v, e = .returned v ∧ NatV w' v (val B32 ds) ∧ Below w.heap.size w w' := by
  rcases hs with ⟨rfl, p, c, rfl⟩ | ⟨g, c, rfl, hd, hc, hc2⟩
  · go_enter Tryd.func41, Tryd.ntmps41
    go_wp2
    go_loop [3] (fun n => n = .int .i64 0) (fun _ => 0)
    case atStart => rfl
    case round =>
      obtain rfl := hrel
      go_wp2
      have hc := cell_box1 (heap_new w (.cells #[.slice none 0 0] 26))
      refine bodyPost_ret (v := .agg #[.slice none 0 0]) (by simp [results, Tryd.results41, go_sem, hc]) rfl ⟨_, rfl, NatV.zero _, (Below.refl _ _).alloc (Nat.le_refl _) _⟩
  · have HLT := hid hlt
    have hgl := hd.lt
    clear hlt
    go_enter Tryd.func41, Tryd.ntmps41
    go_wp2_with fail
    go_loop [3] (fun n => ∃ k : Nat, k ≤ ds.length ∧ n = .int .i64 k ∧ RowKit.Hid (trimD ds = trimD (ds.take k))) (fun n => (intOf n).toNat)
    case atStart => exact ⟨ds.length, Nat.le_refl _, rfl, hid (by rw [List.take_length])⟩
    case round =>
      obtain ⟨k, hk, rfl, HT⟩ := hrel
      by_cases hk0 : k = 0
      · subst hk0
        have h0 : val B32 ds = 0 := (val_eq_zero b32_2).2 (by rw [HT.out]; rfl)
        have H0 := hid h0
        clear h0
        go_wp2
        have hc := cell_box1 (heap_new w (.cells #[.slice none 0 0] 26))
        refine bodyPost_ret (v := .agg #[.slice none 0 0]) (by simp [results, Tryd.results41, go_sem, hc]) rfl ⟨_, rfl, ?_, (Below.refl _ _).alloc (Nat.le_refl _) _⟩
        rw [H0.out]; exact NatV.zero _
      · obtain ⟨j, rfl⟩ : ∃ j, k = j + 1 := ⟨k - 1, by omega⟩
        have hj : j < ds.length := by omega
        have g0 := hd.at0 j hj
        have q1 : (((j + 1 : Nat) : Int) == 0) = false := by rw [beq_eq_false_iff_ne]; omega
        by_cases hz : ds[j] = 0
        · rw [hz] at g0
          have HZ := hid (trim_take_zero hk hz)
          clear hz
          go_wp2
          go_round
          case rel => exact ⟨j, by omega, by go_num, hid (HT.out.trans HZ.out)⟩
          case measure => simp [intOf]
        · have q2 : (((ds[j] : Nat) : Int) == 0) = false := by rw [beq_eq_false_iff_ne]; omega
          have HZ := hid (trim_take_last hk hz)
          clear hz
          go_wp2
          have hW := (Below.refl w.heap.size w).alloc (Nat.le_refl _) (.cells #[.slice (some ⟨g, 0, none⟩) (j + 1) (j + 1)] 26)
          have hcl := cell_box1 (heap_new w (.cells #[.slice (some ⟨g, 0, none⟩) (j + 1) (j + 1)] 26))
          refine bodyPost_ret (v := .agg #[.slice (some ⟨g, 0, none⟩) (j + 1) (j + 1)]) (by simp [results, Tryd.results41, go_sem, hcl]) rfl ⟨_, rfl, ?_, hW⟩
          exact natv_of (hd.below hW) HLT.out j hk (HT.out.trans HZ.out) (by omega)

/-! ### Of -/
/-- A new row of two digits. -/
theorem dig_two (a b : Nat) (w : World) (t : TypeId) : DigV (w.alloc (.cells #[.int .u32 (a : Int), .int .u32 (b : Int)] t)) (.slice (some ⟨w.heap.size, 0, none⟩) 2 2) [a, b] := by
  refine .inr ⟨w.heap.size, 2, rfl, ⟨by simp, fun k hk => ?_⟩, by simp, by omega⟩
  have h := heap_new w (.cells #[.int .u32 (a : Int), .int .u32 (b : Int)] t)
  match k, hk with
  | 0, _ => unfold World.cell?; rw [h]; rfl
  | 1, _ => unfold World.cell?; rw [h]; rfl
/-- A store into a block that holds no digits. -/
theorem NatV.store {W : World} {v : Value} {n R : Nat} {p : Option Addr} {l c : Nat} (h : NatV W v n) (hR : W.cell? ⟨R, 0, none⟩ = some (.slice p l c)) (u : Value) : NatV (W.setCell ⟨R, 0, none⟩ u) v n := by
  refine h.imp id fun ⟨h0, g, c, e, t, hc⟩ => ⟨h0, g, c, e, ⟨by simpa [World.setCell] using t.lt, fun k hk => ?_⟩, hc⟩
  have hne : g ≠ R := fun e => by
    subst e
    have := t.at0 0 (by omega)
    rw [hR] at this; cases this
  rw [← t.at0 k hk]
  exact World.cell?_of_block (w := W) (Below.heap_setCell _ _ _ _ hne)
set_option maxHeartbeats 1000000 in
theorem of_any (n : Nat) (w : World) (hn : n < 18446744073709551616) :
    Calls Tryd.prog 28 #[.int .u64 (n : Int)] w fun e w' => ∃ v, e = .returned v ∧ NatV w' v n ∧ Below w.heap.size w w' := by
  have HT := hid (fun (w1 : World) (h : DigV w1 (.slice (some ⟨w.heap.size + 1, 0, none⟩) 2 2) [n % B32, n / B32]) => trim_any _ _ w1 h (by
    intro d hd
    have := b32
    simp only [List.mem_cons, List.not_mem_nil, or_false] at hd
    rcases hd with rfl | rfl
    · exact Nat.mod_lt _ (by omega)
    · exact Nat.div_lt_of_lt_mul (by rw [b32]; omega)) (by simp))
  go_enter Tryd.func28, Tryd.ntmps28
  go_wp2_with fail
  have hval : val B32 [n % B32, n / B32] = n := by simp only [val]; have := Nat.mod_add_div n B32; omega
  obtain ⟨W1, hW1, hR1, hb1, hd1⟩ : ∃ W1, W1 = (w.alloc (.cells #[.slice none 0 0] 26)).alloc (.cells #[.int .u32 ((n : Int) % 4294967296), .int .u32 ((n : Int) / 4294967296)] 69) ∧ W1.heap[w.heap.size]? = some (.cells #[.slice none 0 0] 26) ∧ Below w.heap.size w W1 ∧ DigV W1 (.slice (some ⟨w.heap.size + 1, 0, none⟩) 2 2) [n % B32, n / B32] := by
    refine ⟨_, rfl, (Below.heap_alloc _ _ _ (by simp)).trans (heap_new w _), ((Below.refl _ w).alloc (Nat.le_refl _) _).alloc (by simp) _, ?_⟩
    have := dig_two (n % B32) (n / B32) (w.alloc (.cells #[.slice none 0 0] 26)) 69
    rw [World.size_alloc] at this
    exact this
  rw [← hW1]
  have hs1 : w.heap.size < W1.heap.size := by rw [hW1]; simp; omega
  clear hW1
  go_wp2_with (go_at_call 41; refine (HT.out _ hd1).mono ?_; clear HT; rintro e w2 ⟨v, rfl, hv, hw2⟩; rw [hval] at hv; obtain ⟨p, c, rfl, _⟩ := hv.dig; have hR2 := (hw2.block _ hs1).trans hR1; have hc2 := cell_box1 hR2; have hf2 := free_box1 hR2)
  have hc3 := res_store hR2 (.slice p (digs B32 n).length c)
  refine bodyPost_ret (v := .agg #[.slice p (digs B32 n).length c]) (by simp [results, Tryd.results28, go_sem, hc3]) rfl ⟨_, rfl, hv.store hc2 _, ?_⟩
  exact (hb1.trans (hw2.mono (by omega))).setCell (p := ⟨w.heap.size, 0, none⟩) (Nat.le_refl _) _

end Go.Proofs.YtepljhpamconbaaDoor
