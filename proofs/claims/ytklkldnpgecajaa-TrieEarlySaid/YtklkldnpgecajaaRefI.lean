/- The reference's functions for the number of nodes: with, Nodes. -/
import Derived.Test.YtklkldnpgecajaaRefH
namespace Go.Proofs.Ytklkldnpgecajaa
open Go.RowKit Go.Shelf

def pcells (p : Nat × Nat) : List Value := [.int .u32 (p.1 : Int), .int .i64 (p.2 : Int)]
theorem pcells_len (l : List (Nat × Nat)) : (l.flatMap pcells).length = l.length * 2 := by
  induction l with
  | nil => rfl
  | cons x l ih => simp [List.flatMap_cons, ih, pcells]; omega
abbrev RowP (W : World) (base : Nat) (v : Value) (o : List (Nat × Nat)) : Prop := W.ownsRow base 35 2 v o.length (o.flatMap pcells)
theorem pflat_get (L : List (Nat × Nat)) (k : Nat) (h : k < L.length) (j : Nat) (hj : j < 2) : (L.flatMap pcells)[k * 2 + j]? = (pcells L[k])[j]? := by
  induction L generalizing k with
  | nil => cases h
  | cons x L ih =>
    rw [List.flatMap_cons]
    cases k with
    | zero => rw [List.getElem?_append_left (by simp [pcells]; omega)]; simp
    | succ k =>
      rw [List.getElem?_append_right (by simp [pcells]; omega)]
      have := ih k (by simpa using h)
      rw [show (k + 1) * 2 + j - (pcells x).length = k * 2 + j by simp [pcells]; omega, this]
      rfl
theorem rowp_at {W : World} {base : Nat} {v : Value} {o : List (Nat × Nat)} (h : RowP W base v o) (ho : o ≠ []) :
    ∃ g c, v = .slice (some ⟨g, 0, none⟩) o.length c ∧ base ≤ g ∧ g < W.heap.size ∧ ∀ k (hk : k < o.length), W.cell? ⟨g, k * 2, none⟩ = some (.int .u32 (o[k].1 : Int)) ∧ W.cell? ⟨g, k * 2 + 1, none⟩ = some (.int .i64 (o[k].2 : Int)) := by
  rcases h.2 with ⟨e, hn⟩ | ⟨g, cap, cur, e, hb, hg, hr⟩
  · exact absurd (List.eq_nil_of_length_eq_zero hn) ho
  · have hc := fun j u => h.cells (g := g) (by rw [e]; rfl) j u
    refine ⟨g, cap, e, hb, (Array.getElem?_eq_some_iff.1 hg).1, fun k hk => ⟨?_, ?_⟩⟩
    · rw [← add_at]; exact hc _ _ (by have := pflat_get o k hk 0 (by omega); simpa [pcells] using this)
    · rw [← add_at]; exact hc _ _ (by have := pflat_get o k hk 1 (by omega); simpa [pcells] using this)
theorem rowp_nil {W : World} {base : Nat} {v : Value} (h : RowP W base v []) : ∃ p c, v = .slice p 0 c := by
  rcases h.2 with ⟨e, _⟩ | ⟨g, cap, cur, e, _⟩
  · exact ⟨_, _, e⟩
  · exact ⟨_, _, e⟩
theorem infoP : (Try.prog.info? 35).map (fun i => (i.zero, i.size, i.bytes)) = some (some (.agg #[.int .u32 0, .int .i64 0]), 2, 16) := by kernel_rfl
theorem pcells_new (W : World) (x : Nat × Nat) (t : TypeId) (j : Nat) (u : Value) (h : (pcells x)[j]? = some u) : (W.alloc (.cells (pcells x).toArray t)).cell? ((⟨W.heap.size, 0, none⟩ : Addr).add j) = some u := by
  rw [add_at]
  unfold World.cell?
  rw [World.alloc_heap_new]
  simpa using h
theorem one_p (x : Nat × Nat) : ∀ u ∈ pcells x, u.oneCell' = true := by
  intro u hu; simp only [pcells, List.mem_cons, List.not_mem_nil, or_false] at hu; rcases hu with rfl | rfl <;> rfl
theorem rowp_snoc {W : World} {base : Nat} {v : Value} {o : List (Nat × Nat)} {x : Nat × Nat} (h : W.ownsRow base 35 2 v (o.length + 1) (o.flatMap pcells ++ pcells x)) : RowP W base v (o ++ [x]) := by
  unfold RowP
  simpa [List.length_append, List.flatMap_append] using h
theorem rowp_step {B : Nat} {W1 wr w1 : World} {v : Value} {o : List (Nat × Nat)} {tmp : Obj} (hb : Below B W1 wr) (hrow : RowP wr B v o) (hB : B ≤ wr.heap.size) (hgrow : (wr.alloc tmp).grownBy w1 v.ownBlock) : Below B W1 w1 :=
  (hb.alloc hB tmp).grown hgrow (by simp; omega) fun k hk => (hrow.lt k hk).1

def withP (l : List (Nat × Nat)) (p : Nat × Nat) : List (Nat × Nat) := if p ∈ l then l else l ++ [p]

set_option maxRecDepth 100000 in
set_option maxHeartbeats 1000000 in
theorem with_nil (base : Nat) (v : Value) (p : Nat × Nat) (w : World) (ho : RowP w base v []) (hbase : base ≤ w.heap.size) :
    Calls Try.prog 32 #[v, .agg #[.int .u32 (p.1 : Int), .int .i64 (p.2 : Int)]] w fun e w' => ∃ v', e = .returned v' ∧ RowP w' base v' [p] ∧ Below base w w' := by
  obtain ⟨i0, hi, hz0, hz1, hz2⟩ := info_parts infoP
  obtain ⟨q, c, rfl⟩ := rowp_nil ho
  go_enter Try.func32, Try.ntmps32
  go_wp2_with fail
  obtain ⟨W1, hW1, hsz, kB, hWb⟩ := box_head p.1 (p.2 : Int) w
  have ho1 := row_kept_none ho (grown_of_below hWb)
  rw [← hW1]
  have hB1 : w.heap.size < W1.heap.size := by omega
  clear hW1 hsz ho
  have d0 := cell_of_pfx kB
  go_loop [5] (fun i => i = .int .i64 0) (fun _ => 0)
  case atStart => rfl
  case round =>
    obtain rfl := hrel
    go_wp2_with (at_builtin; refine wpList_append_own _ rfl _ _ 65 rfl base 35 i0 _ 2 16 Try.underlying65 hi hz0 hz1 hz2 rfl (by decide) _ _ _ rfl (ho1.alloc _) ⟨W1.heap.size, 0, none⟩ 1 1 (pcells p) rfl rfl (pcells_new W1 p _) (one_p _) (by simp [maxLen]) (by simp) (by simp; omega) ?_; intro v' w5 hown' hgrow _; have hb5 := rowp_step (Below.refl base W1) ho1 (by omega) hgrow; replace hown' := rowp_snoc hown')
    go_ret
    exact ⟨_, rfl, hown', (hWb.mono hbase).trans hb5⟩

set_option maxRecDepth 100000 in
set_option maxHeartbeats 1000000 in
theorem with_some (base : Nat) (v : Value) (o : List (Nat × Nat)) (p : Nat × Nat) (w : World) (ho : RowP w base v o) (hne : o ≠ []) (hbase : base ≤ w.heap.size) (hl : o.length ≤ 1000000) :
    Calls Try.prog 32 #[v, .agg #[.int .u32 (p.1 : Int), .int .i64 (p.2 : Int)]] w fun e w' => ∃ v', e = .returned v' ∧ RowP w' base v' (withP o p) ∧ Below base w w' := by
  obtain ⟨i0, hi, hz0, hz1, hz2⟩ := info_parts infoP
  obtain ⟨g, c, rfl, hbg, hgl, hcells⟩ := rowp_at ho hne
  have HC := hid hcells
  clear hcells hne
  go_enter Try.func32, Try.ntmps32
  go_wp2_with fail
  obtain ⟨W1, hW1, hsz, kB, hWb⟩ := box_head p.1 (p.2 : Int) w
  have ho1 := row_kept_none ho (grown_of_below hWb)
  rw [← hW1]
  have hB1 : w.heap.size < W1.heap.size := by omega
  have hgl1 : g < W1.heap.size := by omega
  clear hW1 hsz ho
  have d0 := cell_of_pfx kB
  go_loopw [5] (fun i wr => ∃ k : Nat, k ≤ o.length ∧ i = .int .i64 k ∧ (∀ j (hj : j < o.length), j < k → o[j] ≠ p) ∧ Below W1.heap.size W1 wr) (fun i _ => o.length - (intOf i).toNat)
  case atStart => exact ⟨0, Nat.zero_le _, rfl, fun j _ h => absurd h (by omega), Below.refl _ _⟩
  case round =>
    obtain ⟨k, hk, rfl, hno, hbw⟩ := hrel
    have HNO := hid hno
    clear hno
    by_cases hlt : k < o.length
    · have g0 : W1.cell? ⟨g, k * 2, none⟩ = some (.int .u32 (o[k].1 : Int)) := (hWb.cell (p := ⟨g, k * 2, none⟩) hgl).trans (HC.out k hlt).1
      have g1 : W1.cell? ⟨g, k * 2 + 1, none⟩ = some (.int .i64 (o[k].2 : Int)) := (hWb.cell (p := ⟨g, k * 2 + 1, none⟩) hgl).trans (HC.out k hlt).2
      by_cases hs : o[k] = p
      · have HP := hid (show withP o p = o from if_pos (by rw [← hs]; exact List.getElem_mem hlt))
        rw [hs] at g0 g1
        clear hs
        go_upto_region 4 with (fail)
        refine wp_region_staged (fun w' => Below W1.heap.size W1 w') [0, 0, 0, 1, 1, 0] (by kernel_rfl) (by kernel_rfl) (by kernel_rfl) (by exact hbw.drew) ?_
        apply lexF rfl; (· intro _; go_simp; (try go_bits); exact ⟨rfl, rfl⟩); simp only [Act.put, List.setIfInBounds_toArray, List.set_cons_zero, List.set_cons_succ]
        apply lexF rfl; (· intro _; go_simp; (try go_bits); exact ⟨rfl, rfl⟩); simp only [Act.put, List.setIfInBounds_toArray, List.set_cons_zero, List.set_cons_succ]
        apply lexF rfl; (· intro _; go_simp; (try go_bits); exact ⟨rfl, rfl⟩); simp only [Act.put, List.setIfInBounds_toArray, List.set_cons_zero, List.set_cons_succ]
        apply lexH rfl; (· intro w' hw'; have hcc := cellsBelow hw'; go_simp; (try go_bits); exact ⟨rfl, hw'⟩); simp only [Act.put, List.setIfInBounds_toArray, List.set_cons_zero, List.set_cons_succ]
        apply lexH rfl; (· intro w' hw'; have hcc := cellsBelow hw'; go_simp; (try go_bits); exact ⟨rfl, hw'⟩); simp only [Act.put, List.setIfInBounds_toArray, List.set_cons_zero, List.set_cons_succ]
        apply lexF rfl; (· intro _; go_simp; (try go_bits); exact ⟨rfl, rfl⟩); simp only [Act.put, List.setIfInBounds_toArray, List.set_cons_zero, List.set_cons_succ]
        refine lexEnd (fun w2 hw2 => ?_)
        go_wp2
        go_ret
        exact ⟨_, rfl, by rw [HP.out]; exact row_kept_none ho1 (grown_of_below hw2), (hWb.mono hbase).trans (hw2.mono (by omega))⟩
      · have HNE := hid (show ¬ ((o[k].1 : Int) = (p.1 : Int) ∧ (o[k].2 : Int) = (p.2 : Int)) from fun h => hs (Prod.ext (by omega) (by omega)))
        have HS := hid hs
        clear hs
        go_upto_region 4 with (fail)
        refine wp_region_staged (fun w' => Below W1.heap.size W1 w') [0, 0, 0, 1, 1, 0] (by kernel_rfl) (by kernel_rfl) (by kernel_rfl) (by exact hbw.drew) ?_
        apply lexF rfl; (· intro _; go_simp; (try go_bits); exact ⟨rfl, rfl⟩); simp only [Act.put, List.setIfInBounds_toArray, List.set_cons_zero, List.set_cons_succ]
        apply lexF rfl; (· intro _; go_simp; (try go_bits); exact ⟨rfl, rfl⟩); simp only [Act.put, List.setIfInBounds_toArray, List.set_cons_zero, List.set_cons_succ]
        apply lexF rfl; (· intro _; go_simp; (try go_bits); exact ⟨rfl, rfl⟩); simp only [Act.put, List.setIfInBounds_toArray, List.set_cons_zero, List.set_cons_succ]
        apply lexH rfl; (· intro w' hw'; have hcc := cellsBelow hw'; go_simp; (try go_bits); exact ⟨rfl, hw'⟩); simp only [Act.put, List.setIfInBounds_toArray, List.set_cons_zero, List.set_cons_succ]
        apply lexH rfl; (· intro w' hw'; have hcc := cellsBelow hw'; go_simp; (try go_bits); exact ⟨rfl, hw'⟩); simp only [Act.put, List.setIfInBounds_toArray, List.set_cons_zero, List.set_cons_succ]
        apply lexF rfl
        · intro w'; go_simp; (try go_bits); exact flt_if2 HNE.out
        simp only [Act.put, List.setIfInBounds_toArray, List.set_cons_zero, List.set_cons_succ]
        refine lexEnd (fun w2 hw2 => ?_)
        go_wp2
        go_roundw
        case rel => exact ⟨k + 1, by omega, by go_num, fun j hj hjk => by
          rcases Nat.lt_or_ge j k with h | h
          · exact HNO.out j hj h
          · obtain rfl : j = k := by omega
            exact HS.out, hw2⟩
        case measure => simp [intOf]; omega
    · obtain rfl : k = o.length := by omega
      have HP := hid (show withP o p = o ++ [p] from if_neg fun hm => by
        obtain ⟨j, hj, e⟩ := List.mem_iff_getElem.1 hm
        exact HNO.out j hj hj e)
      have how := row_kept_none ho1 (grown_of_below hbw)
      have hcc := cellsBelow hbw
      have hws := hbw.size
      go_wp2_with (at_builtin; refine wpList_append_own _ rfl _ _ 65 rfl base 35 i0 _ 2 16 Try.underlying65 hi hz0 hz1 hz2 rfl (by decide) _ _ _ rfl (how.alloc _) ⟨wr.heap.size, 0, none⟩ 1 1 (pcells p) rfl rfl (pcells_new wr p _) (one_p _) (by simp [maxLen]; omega) (by omega) (by simp; omega) ?_; intro v' w5 hown' hgrow _; have hb5 := rowp_step (Below.refl base wr) how (by omega) hgrow; replace hown' := rowp_snoc hown')
      go_ret
      exact ⟨_, rfl, by rw [HP.out]; exact hown', ((hWb.mono hbase).trans (hbw.mono (by omega))).trans hb5⟩
theorem with_any (base : Nat) (v : Value) (o : List (Nat × Nat)) (p : Nat × Nat) (w : World) (ho : RowP w base v o) (hbase : base ≤ w.heap.size) (hl : o.length ≤ 1000000) :
    Calls Try.prog 32 #[v, .agg #[.int .u32 (p.1 : Int), .int .i64 (p.2 : Int)]] w fun e w' => ∃ v', e = .returned v' ∧ RowP w' base v' (withP o p) ∧ Below base w w' := by
  by_cases h : o = []
  · subst h
    have : withP [] p = [p] := by simp [withP]
    rw [this]
    exact with_nil base v p w ho hbase
  · exact with_some base v o p w ho h hbase hl

/-! ### Nodes -/
/-- What has been collected of a table's first routes. -/
structure NodesOf (L : List Rt) (k : Nat) (all : List (Nat × Nat)) : Prop where
  nodup : all.Nodup
  mem : ∀ q, q ∈ all ↔ (∃ x ∈ L.take k, q = x.key) ∨ q ∈ meets (L.take k)
  len : all.length ≤ 2 * k
theorem withP_nodup {l : List (Nat × Nat)} (h : l.Nodup) (p : Nat × Nat) : (withP l p).Nodup := by
  unfold withP
  split
  · exact h
  · rename_i hn
    refine List.nodup_append.2 ⟨h, by simp, fun x hx y hy e => ?_⟩
    simp at hy; subst hy; subst e; exact hn hx
theorem withP_mem {l : List (Nat × Nat)} {p q : Nat × Nat} : q ∈ withP l p ↔ q ∈ l ∨ q = p := by
  unfold withP
  split
  · rename_i h
    exact ⟨.inl, fun h' => h'.elim id fun e => e ▸ h⟩
  · simp
theorem withP_len {l : List (Nat × Nat)} {p : Nat × Nat} : (withP l p).length ≤ l.length + 1 := by
  unfold withP; split <;> simp
theorem NodesOf.first {L : List Rt} {all : List (Nat × Nat)} (h : NodesOf L 0 all) (hk : 0 < L.length) : NodesOf L 1 (withP all L[0].key) := by
  refine ⟨withP_nodup h.nodup _, fun q => ?_, by have := h.len; have := @withP_len all L[0].key; omega⟩
  rw [withP_mem, h.mem q]
  cases L with
  | nil => cases hk
  | cons x L => simp [meets]
theorem NodesOf.next {L : List Rt} {k : Nat} {all : List (Nat × Nat)} (h : NodesOf L k all) (hk : k < L.length) (h0 : 0 < k) : NodesOf L (k + 1) (withP (withP all L[k].key) (meetR L[k - 1] L[k])) := by
  refine ⟨withP_nodup (withP_nodup h.nodup _) _, fun q => ?_, by have := h.len; have := @withP_len all L[k].key; have := @withP_len (withP all L[k].key) (meetR L[k - 1] L[k]); omega⟩
  rw [withP_mem, withP_mem, h.mem q, List.take_succ_eq_append_getElem hk]
  have hne : L.take k ≠ [] := fun e => by
    have h1 : (L.take k).length = k := by rw [List.length_take]; omega
    rw [e] at h1
    simp only [List.length_nil] at h1
    omega
  rw [meets_append q (L.take k) [L[k]] hne (by simp)]
  have hlast : (L.take k).getLast hne = L[k - 1] := by
    rw [List.getLast_eq_getElem]
    simp only [List.getElem_take, List.length_take]
    congr 1; omega
  rw [hlast]
  simp only [List.head_cons, meets, List.not_mem_nil, or_false, List.mem_append, List.mem_singleton]
  constructor
  · rintro (((⟨x, hx, e⟩ | h) | h) | h)
    · exact .inl ⟨x, .inl hx, e⟩
    · exact .inr (.inl h)
    · exact .inl ⟨_, .inr rfl, h⟩
    · exact .inr (.inr h)
  · rintro (⟨x, hx | hx, e⟩ | h | h)
    · exact .inl (.inl (.inl ⟨x, hx, e⟩))
    · subst hx; exact .inl (.inr e)
    · exact .inl (.inl (.inr h))
    · exact .inr h

/-- What Nodes of a table returns. -/
def NodesPost (L : List Rt) (w : World) (e : Ending) (w' : World) : Prop := ∃ all, NodesOf L L.length all ∧ e = .returned (.int .i64 ((all.length : Nat) : Int)) ∧ Below w.heap.size w w'

set_option maxHeartbeats 1000000 in
theorem rnodes_nil (p : Option Addr) (c : Nat) (w : World) :
    Calls Try.prog 16 #[.slice p 0 c] w (NodesPost [] w) := by
  go_enter Try.func16, Try.ntmps16
  go_wp2
  go_loop [3, 4] (fun a i => a = .slice none 0 0 ∧ i = .int .i64 0) (fun _ _ => 0)
  case atStart => exact ⟨rfl, rfl⟩
  case round =>
    obtain ⟨rfl, rfl⟩ := hrel
    go_wp2
    go_ret
    exact ⟨[], ⟨List.nodup_nil, by simp [meets], by simp⟩, rfl, Below.refl _ _⟩

theorem rowp_len {W : World} {base : Nat} {v : Value} {o : List (Nat × Nat)} (h : RowP W base v o) : ∃ p c, v = .slice p o.length c := by
  rcases h.2 with ⟨e, hn⟩ | ⟨g, cap, cur, e, _⟩
  · exact ⟨_, _, by rw [hn]; exact e⟩
  · exact ⟨_, _, e⟩

set_option maxRecDepth 100000 in
set_option maxHeartbeats 2000000 in
theorem rnodes_some (g c : Nat) (L : List Rt) (w : World) (hT : TabIn w g L) (hc : L.length ≤ 1000) (hL : ∀ y ∈ L, V y.a y.n) :
    Calls Try.prog 16 #[.slice (some ⟨g, 0, none⟩) L.length c] w (NodesPost L w) := by
  have HL := hid hL
  clear hL
  have hgl := hT.lt
  go_enter Try.func16, Try.ntmps16
  go_wp2_with fail
  go_loopw [3, 4] (fun av i wr => ∃ (k : Nat) (all : List (Nat × Nat)), k ≤ L.length ∧ i = .int .i64 k ∧ RowP wr w.heap.size av all ∧ NodesOf L k all ∧ Below w.heap.size w wr) (fun _ i _ => L.length - (intOf i).toNat)
  case atStart => exact ⟨0, [], Nat.zero_le _, rfl, World.ownsRow_nil _ _ _ _, ⟨List.nodup_nil, by simp [meets], by simp⟩, Below.refl _ _⟩
  case round =>
    obtain ⟨k, all, hk, rfl, ho, hn, hbw⟩ := hrel
    by_cases hlt : k < L.length
    · have g0 := hT.at0 k hlt
      have g1 := hT.at1 k hlt
      have hvk := HL.out L[k] (List.getElem_mem hlt)
      have hlen := hn.len
      have HN := hid hn
      clear hn
      have hcc := cellsBelow hbw
      by_cases hk0 : k = 0
      · have HK := hid hk0
        have hlt0 : ¬ (0 : Int) < (k : Int) := by omega
        clear hk0
        go_wp2_with (go_at_call 32; refine (with_any w.heap.size _ all L[k].key _ ho hbw.size (by omega)).mono ?_; rintro e w2 ⟨v2, rfl, ho2, hw2⟩)
        clear hcc
        go_roundw
        case rel => exact ⟨k + 1, withP all L[k].key, by omega, by go_num, ho2, by
          have h0 := HK.out
          subst h0
          exact HN.out.first hlt, hbw.trans hw2⟩
        case measure => simp [intOf]; omega
      · have hlt0 : (0 : Int) < (k : Int) := by omega
        have hk1 : k - 1 < L.length := by omega
        have g0' := hT.at0 (k - 1) hk1
        have g1' := hT.at1 (k - 1) hk1
        have hvk' := HL.out L[k - 1] (List.getElem_mem hk1)
        have HK := hid hk0
        clear hk0
        go_upto_region 7 with (go_at_call 32; refine (with_any w.heap.size _ all L[k].key _ ho hbw.size (by omega)).mono ?_; rintro e w2 ⟨v2, rfl, ho2, hw2⟩)
        have hb2 := hbw.trans hw2
        clear hcc
        have hg2 : g < w2.heap.size := by have := hb2.size; omega
        have c0 : w2.cell? ⟨g, k * 3, none⟩ = some (.int .u32 (L[k].a : Int)) := (hb2.cell (p := ⟨g, k * 3, none⟩) hgl).trans g0
        have c1 : w2.cell? ⟨g, k * 3 + 1, none⟩ = some (.int .i64 (L[k].n : Int)) := (hb2.cell (p := ⟨g, k * 3 + 1, none⟩) hgl).trans g1
        have c0' : w2.cell? ⟨g, (k - 1) * 3, none⟩ = some (.int .u32 (L[k - 1].a : Int)) := (hb2.cell (p := ⟨g, (k - 1) * 3, none⟩) hgl).trans g0'
        have c1' : w2.cell? ⟨g, (k - 1) * 3 + 1, none⟩ = some (.int .i64 (L[k - 1].n : Int)) := (hb2.cell (p := ⟨g, (k - 1) * 3 + 1, none⟩) hgl).trans g1'
        clear g0 g1 g0' g1'
        have wl := @withP_len all L[k].key
        have hq1 : (1 : Int) ≤ (k : Int) := by omega
        have hq2 : (k : Int) - 1 < (L.length : Int) := by omega
        refine wp_region_staged (fun w' => Below w2.heap.size w2 w') [0, 0, 0, 0, 0, 0, 1, 0, 0, 0, 0, 1, 1, 2, 0] (by kernel_rfl) (by kernel_rfl) (by kernel_rfl) (by exact (Below.refl _ _).drew) ?_
        apply lexF rfl; (· intro _; go_simp; (try go_bits); exact ⟨rfl, rfl⟩); simp only [Act.put, List.setIfInBounds_toArray, List.set_cons_zero, List.set_cons_succ]
        apply lexF rfl; (· intro _; go_simp; (try go_bits); exact ⟨rfl, rfl⟩); simp only [Act.put, List.setIfInBounds_toArray, List.set_cons_zero, List.set_cons_succ]
        apply lexF rfl; (· intro _; go_simp; (try go_bits); exact ⟨rfl, rfl⟩); simp only [Act.put, List.setIfInBounds_toArray, List.set_cons_zero, List.set_cons_succ]
        apply lexF rfl; (· intro _; go_simp; (try go_bits); exact ⟨rfl, rfl⟩); simp only [Act.put, List.setIfInBounds_toArray, List.set_cons_zero, List.set_cons_succ]
        apply lexF rfl; (· intro _; go_simp; (try go_bits); exact ⟨rfl, rfl⟩); simp only [Act.put, List.setIfInBounds_toArray, List.set_cons_zero, List.set_cons_succ]
        apply lexF rfl; (· intro _; go_simp; (try go_bits); exact ⟨rfl, rfl⟩); simp only [Act.put, List.setIfInBounds_toArray, List.set_cons_zero, List.set_cons_succ]
        apply lexH rfl; (· intro w' hw'; have hcc := cellsBelow hw'; go_simp; (try go_bits); exact ⟨rfl, hw'⟩); simp only [Act.put, List.setIfInBounds_toArray, List.set_cons_zero, List.set_cons_succ]
        apply lexF rfl; (· intro _; go_simp; (try go_bits); exact ⟨rfl, rfl⟩); simp only [Act.put, List.setIfInBounds_toArray, List.set_cons_zero, List.set_cons_succ]
        apply lexF rfl; (· intro _; go_simp; (try go_bits); exact ⟨rfl, rfl⟩); simp only [Act.put, List.setIfInBounds_toArray, List.set_cons_zero, List.set_cons_succ]
        apply lexF rfl; (· intro _; go_simp; (try go_bits); exact ⟨rfl, rfl⟩); simp only [Act.put, List.setIfInBounds_toArray, List.set_cons_zero, List.set_cons_succ]
        apply lexF rfl; (· intro _; go_simp; (try go_bits); exact ⟨rfl, rfl⟩); simp only [Act.put, List.setIfInBounds_toArray, List.set_cons_zero, List.set_cons_succ]
        apply lexH rfl; (· intro w' hw'; have hcc := cellsBelow hw'; go_simp; (try go_bits); exact ⟨rfl, hw'⟩); simp only [Act.put, List.setIfInBounds_toArray, List.set_cons_zero, List.set_cons_succ]
        apply lexH rfl
        · intro w' hw'; go_simp; (try go_bits); refine (meet_any L[k - 1].a L[k - 1].n L[k].a L[k].n _ hvk' hvk).mono ?_; rintro e w'' ⟨rfl, hbb⟩; exact ⟨_, rfl, rfl, hw'.trans (hbb.mono hw'.size)⟩
        simp only [Act.put, List.setIfInBounds_toArray, List.set_cons_zero, List.set_cons_succ]
        apply lexE (α := Value) (fun v => v) (fun v w' => RowP w' w.heap.size v (withP (withP all L[k].key) (meetR L[k - 1] L[k])) ∧ Below w.heap.size w w') rfl
        · intro w' hw'
          have ho' := row_kept_none ho2 (grown_of_below hw')
          have hb' := hb2.trans (hw'.mono hb2.size)
          go_simp
          refine (with_any w.heap.size _ (withP all L[k].key) (meetR L[k - 1] L[k]) _ ho' hb'.size (by omega)).mono ?_
          rintro e w3 ⟨v3, rfl, ho3, hw3⟩
          exact ⟨v3, rfl, ho3, hb'.trans hw3⟩
        intro v3
        simp only [Act.put, List.setIfInBounds_toArray, List.set_cons_zero, List.set_cons_succ]
        apply lexF rfl; (· intro _; go_simp; (try go_bits); exact ⟨rfl, rfl⟩); simp only [Act.put, List.setIfInBounds_toArray, List.set_cons_zero, List.set_cons_succ]
        refine lexEnd (fun w4 hw4 => ?_)
        go_wp2
        go_roundw
        case rel => exact ⟨k + 1, _, by omega, by go_num, hw4.1, HN.out.next hlt (by omega), hw4.2⟩
        case measure => simp [intOf]; omega
    · obtain rfl : k = L.length := by omega
      obtain ⟨p, c', rfl⟩ := rowp_len ho
      go_wp2
      go_ret
      exact ⟨all, hn, rfl, hbw⟩

theorem rnodes_any (v : Value) (t : T) (w : World) (hT : TabV w v t.list) (hc : t.list.length ≤ 1000) (ht : t.Ok) :
    Calls Try.prog 16 #[v] w fun e w' => e = .returned (.int .i64 ((t.count : Nat) : Int)) ∧ Below w.heap.size w w' := by
  have h : Calls Try.prog 16 #[v] w (NodesPost t.list w) := by
    by_cases h : t.list = []
    · rw [h] at hT ⊢
      obtain ⟨p, c, rfl⟩ := tab_empty hT
      exact rnodes_nil p c w
    · obtain ⟨g, c, rfl, h, _⟩ := tab_some hT h
      exact rnodes_some g c t.list w h hc fun y hy => (ht.mem y hy).2.1
  refine h.mono fun e w' ⟨all, hn, he, hb⟩ => ⟨?_, hb⟩
  have : all.length = t.count := by
    rw [← t.pfx_len]
    refine len_eq hn.nodup ht.nodup fun q => ?_
    rw [hn.mem q, List.take_length, nodes_law q ht]
  rw [he, this]

end Go.Proofs.Ytklkldnpgecajaa
