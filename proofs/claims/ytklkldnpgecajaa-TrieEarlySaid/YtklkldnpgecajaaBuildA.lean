/- Do of the table, do on the trie: one call on both. -/
import Derived.Test.YtklkldnpgecajaaRefI
namespace Go.Proofs.Ytklkldnpgecajaa
open Go.RowKit Go.Shelf

/-- A call: Remove, or Put. -/
structure Op where
  rm : Bool
  a : Nat
  n : Int
  v : Int
def Op.enc (o : Op) : Value := .agg #[.bool o.rm, .int .u32 (o.a : Int), .int .i64 o.n, .int .i64 o.v]

/-! ### What a call makes of the list -/
def remL (a : Nat) (n : Int) (L : List Rt) : List Rt × Int :=
  if vld a n = true then (match getL a n L with
    | none => (L, 8)
    | some _ => (delL a n.toNat L, 0)) else (L, 1)
def insL (a : Nat) (n v : Int) (L : List Rt) : List Rt × Int := if vld a n = true then (putL ⟨a, n.toNat, v⟩ false L, 0) else (L, 1)
def stepL (o : Op) (L : List Rt) : List Rt × Int := if o.rm = true then remL o.a o.n L else insL o.a o.n o.v L
theorem putL_len (r : Rt) : ∀ (l : List Rt) (d : Bool), (putL r d l).length ≤ l.length + 1 ∧ (d = true → (putL r d l).length ≤ l.length)
  | [], d => by cases d <;> simp [putL]
  | x :: l, d => by
    unfold putL
    have h1 := putL_len r l d
    have h2 := putL_len r l true
    split
    · simp only [List.length_cons]; omega
    · split
      · rename_i h
        simp only [List.length_cons]
        exact ⟨by have := h2.2 rfl; omega, fun e => by rw [h.1] at e; cases e⟩
      · simp only [List.length_cons]
        exact ⟨by omega, fun e => by have := h1.2 e; omega⟩
theorem stepL_len (o : Op) (L : List Rt) : (stepL o L).1.length ≤ L.length + 1 := by
  unfold stepL remL insL
  split
  · split
    · split
      · simp
      · simp only [delL]; exact Nat.le_trans (List.length_filter_le _ _) (by omega)
    · simp
  · split
    · exact (putL_len _ L false).1
    · simp

/-- What a call on the table leaves. -/
def StepPost (v : Value) (L : List Rt) (r : List Rt × Int) (w : World) (e : Ending) (w' : World) : Prop :=
  ∃ v', e = .returned (.tuple #[v', .int .i64 r.2]) ∧ ((v' = v ∧ r.1 = L) ∨ RowL w' w.heap.size v' r.1) ∧ Below w.heap.size w w'

theorem getL_mem {pa pn : Nat} {u : Int} : ∀ {L : List Rt}, L.Pairwise Rt.lt → (getL pa (pn : Int) L = some u ↔ (⟨pa, pn, u⟩ : Rt) ∈ L)
  | [], _ => by simp [getL]
  | x :: l, hs => by
    obtain ⟨a1, a2⟩ := List.pairwise_cons.1 hs
    unfold getL
    by_cases h : x.a = pa ∧ (x.n : Int) = (pn : Int)
    · rw [if_pos h]
      obtain ⟨xa, xn, xv⟩ := x
      obtain ⟨rfl, h2⟩ := h
      obtain rfl : xn = pn := by simp only at h2; omega
      have hno : (⟨xa, xn, u⟩ : Rt) ∉ l := fun hm => by have := a1 _ hm; unfold Rt.lt at this; simp at this
      simp [hno, eq_comm]
    · rw [if_neg h, getL_mem a2]
      have : (⟨pa, pn, u⟩ : Rt) ≠ x := fun e => h (by subst e; exact ⟨rfl, rfl⟩)
      simp [this]

theorem rrem_all (v : Value) (L : List Rt) (a : Nat) (n : Int) (w : World) (hT : TabV w v L) (hc : L.length ≤ 1000000) (hs : L.Pairwise Rt.lt) (ha : W32 a) :
    Calls Try.prog 46 #[v, .agg #[.int .u32 (a : Int), .int .i64 n]] w (StepPost v L (remL a n L) w) := by
  cases hv : vld a n with
  | false =>
    refine (rrem_bad v a n w ha hv).mono fun e w' ⟨he, hb⟩ => ⟨v, ?_, .inl ⟨rfl, ?_⟩, hb⟩ <;> simp [remL, hv, he]
  | true =>
    obtain ⟨k, rfl⟩ := Int.eq_ofNat_of_zero_le (vld_iff.1 hv).1
    cases hg : getL a (k : Int) L with
    | none => refine (rrem_miss v L a k w hT hc ha hv hg).mono fun e w' ⟨he, hb⟩ => ⟨v, ?_, .inl ⟨rfl, ?_⟩, hb⟩ <;> simp [remL, hv, he, hg]
    | some u => refine (rrem_some v L a k u w hT hc hs ha hv hg).mono fun e w' ⟨v', he, hr, hb⟩ => ⟨v', ?_, .inr ?_, hb⟩ <;> simp [remL, hv, he, hg, hr]
theorem rput_all (v : Value) (L : List Rt) (a : Nat) (n rv : Int) (w : World) (hT : TabV w v L) (hc : L.length ≤ 1000000) (ha : W32 a) :
    Calls Try.prog 47 #[v, .agg #[.int .u32 (a : Int), .int .i64 n, .int .i64 rv]] w (StepPost v L (insL a n rv L) w) := by
  cases hv : vld a n with
  | false =>
    refine (rput_bad v a n rv w ha hv).mono fun e w' ⟨he, hb⟩ => ⟨v, ?_, .inl ⟨rfl, ?_⟩, hb⟩ <;> simp [insL, hv, he]
  | true =>
    obtain ⟨k, rfl⟩ := Int.eq_ofNat_of_zero_le (vld_iff.1 hv).1
    refine (rput_any v L ⟨a, k, rv⟩ w hT hc ha hv).mono fun e w' ⟨v', he, hr, hb⟩ => ⟨v', ?_, .inr ?_, hb⟩ <;> simp [insL, hv, he, hr]

/-- The box of a call. -/
theorem op_box (r : Bool) (a : Nat) (n v : Int) (w : World) :
    ∃ W1, W1 = w.alloc (.cells #[.bool r, .int .u32 (a : Int), .int .i64 n, .int .i64 v] 60) ∧ W1.heap.size = w.heap.size + 1 ∧
      W1.heap[w.heap.size]? = some (.cells #[.bool r, .int .u32 (a : Int), .int .i64 n, .int .i64 v] 60) ∧ Below w.heap.size w W1 :=
  ⟨_, rfl, World.size_alloc _ _, heap_alloc_at _ _, (Below.refl _ _).alloc (Nat.le_refl _) _⟩
theorem cell_of_box4 {W : World} {B : Nat} {x y z u : Value} {t : TypeId} (h : W.heap[B]? = some (.cells #[x, y, z, u] t)) :
    W.cell? ⟨B, 0, none⟩ = some x ∧ W.cell? ⟨B, 1, none⟩ = some y ∧ W.cell? ⟨B, 2, none⟩ = some z ∧ W.cell? ⟨B, 3, none⟩ = some u := by
  refine ⟨?_, ?_, ?_, ?_⟩ <;> simp [World.cell?, h]

set_option maxHeartbeats 1000000 in
theorem rdo_any (v : Value) (L : List Rt) (o : Op) (w : World) (hT : TabV w v L) (hc : L.length ≤ 1000000) (hs : L.Pairwise Rt.lt) (ha : W32 o.a) :
    Calls Try.prog 29 #[v, o.enc] w (StepPost v L (stepL o L) w) := by
  obtain ⟨rm, a, n, rv⟩ := o
  simp only [Op.enc]
  have HP := hid (fun w1 hT => rput_all v L a n rv w1 hT hc ha)
  have HR := hid (fun w1 hT => rrem_all v L a n w1 hT hc hs ha)
  clear hs
  cases rm with
  | true =>
    go_enter Try.func29, Try.ntmps29
    go_upto_region 1 with (fail)
    obtain ⟨W1, hW1, hsz, kB, hWb⟩ := op_box true a n rv w
    have hT1 := hT.below hWb
    rw [← hW1]
    have hB1 : w.heap.size ≤ W1.heap.size := by omega
    clear hW1 hsz hT
    obtain ⟨d0, d1, d2, d3⟩ := cell_of_box4 kB
    go_wp2_with (go_at_call 46; refine (HR.out _ hT1).mono ?_; clear HR HP; rintro e w2 ⟨v', rfl, hv', hw2⟩)
    go_ret2
    exact ⟨v', rfl, hv'.imp id fun h => row_mono h hB1, hWb.trans (hw2.mono hB1)⟩
  | false =>
    go_enter Try.func29, Try.ntmps29
    go_upto_region 1 with (fail)
    obtain ⟨W1, hW1, hsz, kB, hWb⟩ := op_box false a n rv w
    have hT1 := hT.below hWb
    rw [← hW1]
    have hB1 : w.heap.size ≤ W1.heap.size := by omega
    clear hW1 hsz hT
    obtain ⟨d0, d1, d2, d3⟩ := cell_of_box4 kB
    go_wp2_with (go_at_call 47; refine (HP.out _ hT1).mono ?_; clear HR HP; rintro e w2 ⟨v', rfl, hv', hw2⟩)
    go_ret2
    exact ⟨v', rfl, hv'.imp id fun h => row_mono h hB1, hWb.trans (hw2.mono hB1)⟩

/-! ### The same on the trie -/
/-- What a call on the trie leaves. -/
def TriePost (n₀ : Nat) (w₀ : World) (tb : Nat) (S : List Nat) (r : List Rt × Int) (w : World) (e : Ending) (w' : World) : Prop :=
  e = .returned (.int .i64 r.2) ∧ (∃ t', t'.Ok ∧ t'.list = r.1 ∧ Has n₀ w₀ w' tb t' S) ∧ ∀ k ∈ S, w'.heap[k]? = w.heap[k]?

theorem get_list {t : T} (h : t.Ok) {pa pn : Nat} (hv : V pa pn) : t.get pa pn = getL pa (pn : Int) t.list := by
  cases h1 : t.get pa pn with
  | some u => exact ((getL_mem h.sorted).2 ((get_law pa pn hv t 0 0 u h).1 h1)).symm
  | none =>
    cases h2 : getL pa (pn : Int) t.list with
    | none => rfl
    | some u => rw [(get_law pa pn hv t 0 0 u h).2 ((getL_mem h.sorted).1 h2)] at h1; cases h1

section
variable {n₀ tb : Nat} {w₀ w : World} {t : T} {S : List Nat}
theorem same_of_below (h : Has n₀ w₀ w tb t S) {w' : World} (hb : Below w.heap.size w w') : ∀ k ∈ S, w'.heap[k]? = w.heap[k]? := fun k hk => by
  obtain ⟨_, _, _, _, h3, _⟩ := h
  exact hb.block k (h3 k hk)
theorem trem_all (h : Has n₀ w₀ w tb t S) (ht : t.Ok) (a : Nat) (n : Int) (ha : W32 a) :
    Calls Try.prog 26 #[.pointer (some ⟨tb, 0, none⟩), .agg #[.int .u32 (a : Int), .int .i64 n]] w (TriePost n₀ w₀ tb S (remL a n t.list) w) := by
  cases hv : vld a n with
  | false => exact (remBad tb a n w ha hv).mono fun e w' ⟨he, hb⟩ => ⟨by simp [remL, hv, he], ⟨t, ht, by simp [remL, hv], h.below hb⟩, same_of_below h hb⟩
  | true =>
    obtain ⟨k, rfl⟩ := Int.eq_ofNat_of_zero_le (vld_iff.1 hv).1
    have hV := V.of ha hv
    have hg := get_list ht hV
    cases hgl : t.get a k with
    | none =>
      rw [hgl] at hg
      exact (has_remNone h a k ht.fine ha hv hgl).mono fun e w' ⟨he, hb⟩ => ⟨by simp [remL, hv, he, ← hg], ⟨t, ht, by simp [remL, hv, ← hg], h.below hb⟩, same_of_below h hb⟩
    | some u =>
      obtain ⟨r1, r2⟩ := rem_list ht hV hgl
      have e1 : remL a (k : Int) t.list = (delL a k t.list, 0) := by
        unfold remL
        rw [if_pos hv, ← hg, hgl]
        rfl
      rw [e1]
      exact (has_remGood h a k u ht.fine ha hv hgl).mono fun e w' ⟨he, hh, hs⟩ => ⟨he, ⟨_, r1, r2, hh⟩, hs⟩
theorem tput_all (h : Has n₀ w₀ w tb t S) (ht : t.Ok) (a : Nat) (n rv : Int) (ha : W32 a) :
    Calls Try.prog 22 #[.pointer (some ⟨tb, 0, none⟩), .agg #[.int .u32 (a : Int), .int .i64 n, .int .i64 rv]] w (TriePost n₀ w₀ tb S (insL a n rv t.list) w) := by
  cases hv : vld a n with
  | false => exact (putBad tb a n rv w ha hv).mono fun e w' ⟨he, hb⟩ => ⟨by simp [insL, hv, he], ⟨t, ht, by simp [insL, hv], h.below hb⟩, same_of_below h hb⟩
  | true =>
    obtain ⟨k, rfl⟩ := Int.eq_ofNat_of_zero_le (vld_iff.1 hv).1
    have hV := V.of ha hv
    obtain ⟨r1, r2⟩ := put_list ht rv hV
    have e1 : insL a (k : Int) rv t.list = (putL ⟨a, k, rv⟩ false t.list, 0) := by
      unfold insL
      rw [if_pos hv]
      rfl
    rw [e1]
    exact (has_putGood h a k rv ht.fine ha hv).mono fun e w' ⟨he, hh, hs⟩ => ⟨he, ⟨_, r1, r2, hh⟩, hs⟩

set_option maxHeartbeats 1000000 in
theorem tdo_any (h : Has n₀ w₀ w tb t S) (ht : t.Ok) (o : Op) (ha : W32 o.a) :
    Calls Try.prog 30 #[.pointer (some ⟨tb, 0, none⟩), o.enc] w (TriePost n₀ w₀ tb S (stepL o t.list) w) := by
  obtain ⟨rm, a, n, rv⟩ := o
  simp only [Op.enc]
  have HP := hid (fun (w1 : World) (h1 : Has n₀ w₀ w1 tb t S) => tput_all h1 ht a n rv ha)
  have HR := hid (fun (w1 : World) (h1 : Has n₀ w₀ w1 tb t S) => trem_all h1 ht a n ha)
  have HT := hid ht
  clear ht
  cases rm with
  | true =>
    go_enter Try.func30, Try.ntmps30
    go_upto_region 1 with (fail)
    obtain ⟨W1, hW1, hsz, kB, hWb⟩ := op_box true a n rv w
    have h1 := h.below hWb
    have HS := hid (same_of_below h hWb)
    rw [← hW1]
    have hB1 : w.heap.size ≤ W1.heap.size := by omega
    clear hW1 hsz h
    obtain ⟨d0, d1, d2, d3⟩ := cell_of_box4 kB
    go_wp2_with (go_at_call 26; refine (HR.out _ h1).mono ?_; clear HR HP; rintro e w2 ⟨rfl, hv', hs2⟩)
    go_ret
    exact ⟨rfl, hv', fun k hk => (hs2 k hk).trans (HS.out k hk)⟩
  | false =>
    go_enter Try.func30, Try.ntmps30
    go_upto_region 1 with (fail)
    obtain ⟨W1, hW1, hsz, kB, hWb⟩ := op_box false a n rv w
    have h1 := h.below hWb
    have HS := hid (same_of_below h hWb)
    rw [← hW1]
    have hB1 : w.heap.size ≤ W1.heap.size := by omega
    clear hW1 hsz h
    obtain ⟨d0, d1, d2, d3⟩ := cell_of_box4 kB
    go_wp2_with (go_at_call 22; refine (HP.out _ h1).mono ?_; clear HR HP; rintro e w2 ⟨rfl, hv', hs2⟩)
    go_ret
    exact ⟨rfl, hv', fun k hk => (hs2 k hk).trans (HS.out k hk)⟩
end

end Go.Proofs.Ytklkldnpgecajaa
