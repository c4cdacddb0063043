/- The walks of Put and Remove. -/
import Derived.Test.YtklkldnpgecajaaTreeD
import Derived.Test.YtklkldnpgecajaaTreeE
import Derived.Test.YtklkldnpgecajaaTreeF
namespace Go.Proofs.Ytklkldnpgecajaa
open Go.RowKit

/-- What was done to a trie. -/
def Done (tb : Nat) (X : XT) (t : T) (w w' : World) : Prop :=
  ∃ X' : XT, X'.t = t ∧ TrieAt w' tb X' ∧ (∀ b ∈ X'.blocks, b ∈ X.blocks ∨ w.heap.size ≤ b) ∧ Chg (tb :: X.blocks) w w'

theorem done_store {tb : Nat} {X L : XT} {t : T} {w W1 w2 : World} (h1 : TrieAt W1 tb X) (hWb : Below w.heap.size w W1) (ht : L.t = t) (hL : L.In w2) (hLn : L.blocks.Nodup) (hLb : ∀ c ∈ L.blocks, c ∈ X.blocks ∨ W1.heap.size ≤ c) (hc : Chg X.blocks W1 w2) :
    Done tb X t w (w2.setCell ⟨tb, 0, none⟩ (.pointer L.ptr)) := by
  have hlt := h1.lt
  have b3 : tb ∉ L.blocks := fun hb => by rcases hLb tb hb with h | h; exact h1.apart h; omega
  have k2 := (hc.block tb hlt h1.apart).trans h1.root
  refine ⟨L, ht, ⟨heap_setCell_at k2 _, hL.same fun c hc' => setCell_far _ (ne_of_in hc' b3), b3, hLn⟩, fun c hc' => (hLb c hc').imp id fun h => Nat.le_trans hWb.size h, ?_⟩
  exact ((hc.back hWb).mono fun c hc' => List.mem_cons_of_mem _ hc').setCell (p := ⟨tb, 0, none⟩) (.inl (List.mem_cons_self ..)) _

/-- A route's box. -/
theorem rbox_head (ra : Nat) (rn : Int) (rv : Int) (w : World) :
    ∃ W1, W1 = w.alloc (.cells #[.int .u32 (ra : Int), .int .i64 rn, .int .i64 rv] 37) ∧ W1.heap.size = w.heap.size + 1 ∧
      W1.heap[w.heap.size]? = some (.cells #[.int .u32 (ra : Int), .int .i64 rn, .int .i64 rv] 37) ∧ Below w.heap.size w W1 :=
  ⟨_, rfl, World.size_alloc _ _, heap_alloc_at _ _, (Below.refl _ _).alloc (Nat.le_refl _) _⟩

set_option maxHeartbeats 400000 in
theorem putBad (tb : Nat) (ra : Nat) (rn rv : Int) (w : World) (hra : W32 ra) (hv : vld ra rn = false) :
    Calls Try.prog 22 #[.pointer (some ⟨tb, 0, none⟩), .agg #[.int .u32 (ra : Int), .int .i64 rn, .int .i64 rv]] w fun e w' => e = .returned (.int .i64 1) ∧ Below w.heap.size w w' := by
  have HV := hid hv
  clear hv
  go_enter Try.func22, Try.ntmps22
  go_upto_region 3 with (fail)
  obtain ⟨W1, hW1, hsz, kB, hWb⟩ := rbox_head ra rn rv w
  rw [← hW1]
  have hB1 : w.heap.size < W1.heap.size := by omega
  clear hW1 hsz
  have d0 := cell_of_box3 kB
  refine wp_region_text (fun w' => Below W1.heap.size W1 w') [0, 1, 1, 0] (by exact Below.refl _ _) ?_
  apply lexF rfl; (· intro _; go_simp; (try go_bits); exact ⟨rfl, rfl⟩); simp only [Act.put, List.setIfInBounds_toArray, List.set_cons_zero, List.set_cons_succ]
  apply lexH rfl; (· intro w' hw'; have hcc := cellsBelow hw'; go_simp; (try go_bits); exact ⟨rfl, hw'⟩); simp only [Act.put, List.setIfInBounds_toArray, List.set_cons_zero, List.set_cons_succ]
  apply lexH rfl
  · intro w' hw'; go_simp; (try go_bits); refine (valid_any ra rn _ hra).mono ?_; rintro e w'' ⟨rfl, hbb⟩; exact ⟨_, rfl, congrArg Value.bool HV.out, hw'.trans (hbb.mono hw'.size)⟩
  simp only [Act.put, List.setIfInBounds_toArray, List.set_cons_zero, List.set_cons_succ]
  apply lexF rfl; (· intro _; go_simp; (try go_bits); exact ⟨rfl, rfl⟩); simp only [Act.put, List.setIfInBounds_toArray, List.set_cons_zero, List.set_cons_succ]
  refine lexEnd (fun w2 hw2 => ?_)
  go_wp2
  go_ret
  exact ⟨rfl, hWb.trans (hw2.mono (by omega))⟩

set_option maxHeartbeats 1000000 in
theorem putGood (tb : Nat) (X : XT) (ra rn : Nat) (rv : Int) (w : World) (h : TrieAt w tb X) (hf : X.t.Fine) (hra : W32 ra) (hv : vld ra (rn : Int) = true) :
    Calls Try.prog 22 #[.pointer (some ⟨tb, 0, none⟩), .agg #[.int .u32 (ra : Int), .int .i64 (rn : Int), .int .i64 rv]] w fun e w' => e = .returned (.int .i64 0) ∧ Done tb X (X.t.put ra rn rv) w w' := by
  have HV := hid hv
  have PUT := hid (put_calls X ra rn rv hra hv hf)
  clear hv hf
  go_enter Try.func22, Try.ntmps22
  go_upto_region 3 with (fail)
  obtain ⟨W1, hW1, hsz, kB, hWb⟩ := rbox_head ra (rn : Int) rv w
  have h1 := h.below hWb
  rw [← hW1]
  have hB1 : w.heap.size < W1.heap.size := by omega
  have htl := h1.lt
  clear hW1 hsz h
  have d0 := cell_of_box3 kB
  obtain ⟨r0, r1⟩ := root_cell h1.root
  refine wp_region_text (fun w' => Below W1.heap.size W1 w') [0, 1, 1, 0] (by exact Below.refl _ _) ?_
  apply lexF rfl; (· intro _; go_simp; (try go_bits); exact ⟨rfl, rfl⟩); simp only [Act.put, List.setIfInBounds_toArray, List.set_cons_zero, List.set_cons_succ]
  apply lexH rfl; (· intro w' hw'; have hcc := cellsBelow hw'; go_simp; (try go_bits); exact ⟨rfl, hw'⟩); simp only [Act.put, List.setIfInBounds_toArray, List.set_cons_zero, List.set_cons_succ]
  apply lexH rfl
  · intro w' hw'; go_simp; (try go_bits); refine (valid_any ra rn _ hra).mono ?_; rintro e w'' ⟨rfl, hbb⟩; exact ⟨_, rfl, congrArg Value.bool HV.out, hw'.trans (hbb.mono hw'.size)⟩
  simp only [Act.put, List.setIfInBounds_toArray, List.set_cons_zero, List.set_cons_succ]
  apply lexF rfl; (· intro _; go_simp; (try go_bits); exact ⟨rfl, rfl⟩); simp only [Act.put, List.setIfInBounds_toArray, List.set_cons_zero, List.set_cons_succ]
  refine lexEnd (fun w2 hw2 => ?_)
  go_upto_region 5 with (fail)
  refine wp_region_staged (fun w' => Below W1.heap.size W1 w') [0, 0, 0, 0, 1, 1, 2, 0, 0, 2] (by kernel_rfl) (by kernel_rfl) (by kernel_rfl) (by exact hw2.drew) ?_
  apply lexF rfl; (· intro _; go_simp; (try go_bits); exact ⟨rfl, rfl⟩); simp only [Act.put, List.setIfInBounds_toArray, List.set_cons_zero, List.set_cons_succ]
  apply lexF rfl; (· intro _; go_simp; (try go_bits); exact ⟨rfl, rfl⟩); simp only [Act.put, List.setIfInBounds_toArray, List.set_cons_zero, List.set_cons_succ]
  apply lexF rfl; (· intro _; go_simp; (try go_bits); exact ⟨rfl, rfl⟩); simp only [Act.put, List.setIfInBounds_toArray, List.set_cons_zero, List.set_cons_succ]
  apply lexF rfl; (· intro _; go_simp; (try go_bits); exact ⟨rfl, rfl⟩); simp only [Act.put, List.setIfInBounds_toArray, List.set_cons_zero, List.set_cons_succ]
  apply lexH rfl; (· intro w' hw'; have hcc := cellsBelow hw'; go_simp; (try go_bits); exact ⟨rfl, hw'⟩); simp only [Act.put, List.setIfInBounds_toArray, List.set_cons_zero, List.set_cons_succ]
  apply lexH rfl; (· intro w' hw'; have hcc := cellsBelow hw'; go_simp; (try go_bits); exact ⟨rfl, hw'⟩); simp only [Act.put, List.setIfInBounds_toArray, List.set_cons_zero, List.set_cons_succ]
  apply lexE (α := XT) (fun L => .pointer L.ptr) (fun L w' => L.t = X.t.put ra rn rv ∧ L.In w' ∧ L.blocks.Nodup ∧ (∀ c ∈ L.blocks, c ∈ X.blocks ∨ W1.heap.size ≤ c) ∧ Chg X.blocks W1 w') rfl
  · intro w' hw'
    go_simp
    refine (PUT.out.at h1.nodes h1.nodup hw').mono ?_
    rintro e w'' ⟨L, rfl, hL⟩
    exact ⟨_, rfl, L, rfl, hL⟩
  intro L
  simp only [Act.put, List.setIfInBounds_toArray, List.set_cons_zero, List.set_cons_succ]
  apply lexF rfl; (· intro _; go_simp; (try go_bits); exact ⟨rfl, rfl⟩); simp only [Act.put, List.setIfInBounds_toArray, List.set_cons_zero, List.set_cons_succ]
  apply lexF rfl; (· intro _; go_simp; (try go_bits); exact ⟨rfl, rfl⟩); simp only [Act.put, List.setIfInBounds_toArray, List.set_cons_zero, List.set_cons_succ]
  apply lexS (fun w' => Done tb X (X.t.put ra rn rv) w w') rfl
  · rintro w' ⟨q1, q2, q3, q4, q5⟩
    obtain ⟨s0, s1⟩ := root_cell ((q5.block tb htl h1.apart).trans h1.root)
    have Q1 := hid q1
    clear q1
    go_simp
    exact ⟨rfl, done_store h1 hWb Q1.out q2 q3 q4 q5⟩
  simp only [Act.put]
  refine lexEnd (fun w5 hw5 => ?_)
  go_wp2
  go_ret
  exact ⟨rfl, hw5⟩

set_option maxHeartbeats 400000 in
theorem remBad (tb : Nat) (pa : Nat) (pn : Int) (w : World) (hpa : W32 pa) (hv : vld pa pn = false) :
    Calls Try.prog 26 #[.pointer (some ⟨tb, 0, none⟩), .agg #[.int .u32 (pa : Int), .int .i64 pn]] w fun e w' => e = .returned (.int .i64 1) ∧ Below w.heap.size w w' := by
  have HV := hid hv
  clear hv
  go_enter Try.func26, Try.ntmps26
  go_upto_region 3 with (fail)
  obtain ⟨W1, hW1, hsz, kB, hWb⟩ := box_head pa pn w
  rw [← hW1]
  have hB1 : w.heap.size < W1.heap.size := by omega
  clear hW1 hsz
  have d0 := cell_of_pfx kB
  refine wp_region_text (fun w' => Below W1.heap.size W1 w') [1, 1, 0] (by exact Below.refl _ _) ?_
  apply lexH rfl; (· intro w' hw'; have hcc := cellsBelow hw'; go_simp; (try go_bits); exact ⟨rfl, hw'⟩); simp only [Act.put, List.setIfInBounds_toArray, List.set_cons_zero, List.set_cons_succ]
  apply lexH rfl
  · intro w' hw'; go_simp; (try go_bits); refine (valid_any pa pn _ hpa).mono ?_; rintro e w'' ⟨rfl, hbb⟩; exact ⟨_, rfl, congrArg Value.bool HV.out, hw'.trans (hbb.mono hw'.size)⟩
  simp only [Act.put, List.setIfInBounds_toArray, List.set_cons_zero, List.set_cons_succ]
  apply lexF rfl; (· intro _; go_simp; (try go_bits); exact ⟨rfl, rfl⟩); simp only [Act.put, List.setIfInBounds_toArray, List.set_cons_zero, List.set_cons_succ]
  refine lexEnd (fun w2 hw2 => ?_)
  go_wp2
  go_ret
  exact ⟨rfl, hWb.trans (hw2.mono (by omega))⟩

theorem T.get_on {pa pn : Nat} : ∀ {t : T} {v : Int}, t.Fine → t.get pa pn = some v → t.On pa pn
  | .nil, _, _, h => by simp [T.get] at h
  | .node a n v h l r, u, ⟨⟨ha, _⟩, hl, hr⟩, hg => by
    by_cases he : a = pa ∧ n = pn
    · exact .inl he
    · simp only [T.get, if_neg he] at hg
      by_cases hc : cvr a n pa pn = true
      · rw [if_pos hc] at hg
        have hlt := cvr_lt hc he
        refine .inr ⟨he, by omega, ha, ?_⟩
        rcases bit01 pa n with hb | hb
        · rw [if_pos hb] at hg; exact .inl ⟨hb, T.get_on hl hg⟩
        · rw [if_neg (by omega)] at hg; exact .inr ⟨hb, T.get_on hr hg⟩
      · rw [if_neg hc] at hg; cases hg

set_option maxHeartbeats 1000000 in
theorem remNone (tb : Nat) (X : XT) (pa pn : Nat) (w : World) (h : TrieAt w tb X) (hf : X.t.Fine) (hpa : W32 pa) (hv : vld pa (pn : Int) = true) (hg : X.t.get pa pn = none) :
    Calls Try.prog 26 #[.pointer (some ⟨tb, 0, none⟩), .agg #[.int .u32 (pa : Int), .int .i64 (pn : Int)]] w fun e w' => e = .returned (.int .i64 8) ∧ Below w.heap.size w w' := by
  have HV := hid hv
  have HG := hid hg
  have GET := hid (fun w' (hw : TrieAt w' tb X) => get_good tb X pa pn w' hw hf hpa hv)
  clear hv hg hf
  go_enter Try.func26, Try.ntmps26
  go_upto_region 3 with (fail)
  obtain ⟨W1, hW1, hsz, kB, hWb⟩ := box_head pa (pn : Int) w
  have h1 := h.below hWb
  rw [← hW1]
  have hB1 : w.heap.size < W1.heap.size := by omega
  clear hW1 hsz h
  have d0 := cell_of_pfx kB
  refine wp_region_text (fun w' => Below W1.heap.size W1 w') [1, 1, 0] (by exact Below.refl _ _) ?_
  apply lexH rfl; (· intro w' hw'; have hcc := cellsBelow hw'; go_simp; (try go_bits); exact ⟨rfl, hw'⟩); simp only [Act.put, List.setIfInBounds_toArray, List.set_cons_zero, List.set_cons_succ]
  apply lexH rfl
  · intro w' hw'; go_simp; (try go_bits); refine (valid_any pa pn _ hpa).mono ?_; rintro e w'' ⟨rfl, hbb⟩; exact ⟨_, rfl, congrArg Value.bool HV.out, hw'.trans (hbb.mono hw'.size)⟩
  simp only [Act.put, List.setIfInBounds_toArray, List.set_cons_zero, List.set_cons_succ]
  apply lexF rfl; (· intro _; go_simp; (try go_bits); exact ⟨rfl, rfl⟩); simp only [Act.put, List.setIfInBounds_toArray, List.set_cons_zero, List.set_cons_succ]
  refine lexEnd (fun w2 hw2 => ?_)
  go_upto_region 5 with (fail)
  refine wp_region_text (fun w' => Below W1.heap.size W1 w') [0, 1, 1, 0, 0, 0, 0, 0] (by exact hw2) ?_
  apply lexF rfl; (· intro _; go_simp; (try go_bits); exact ⟨rfl, rfl⟩); simp only [Act.put, List.setIfInBounds_toArray, List.set_cons_zero, List.set_cons_succ]
  apply lexH rfl; (· intro w' hw'; have hcc := cellsBelow hw'; go_simp; (try go_bits); exact ⟨rfl, hw'⟩); simp only [Act.put, List.setIfInBounds_toArray, List.set_cons_zero, List.set_cons_succ]
  apply lexH rfl
  · intro w' hw'; go_simp; (try go_bits); refine (GET.out _ (h1.below hw')).mono ?_; rintro e w'' ⟨rfl, hbb⟩; exact ⟨_, rfl, congrArg getV HG.out, hw'.trans (hbb.mono hw'.size)⟩
  simp only [Act.put, List.setIfInBounds_toArray, List.set_cons_zero, List.set_cons_succ]
  apply lexF rfl; (· intro _; go_simp; (try go_bits); exact ⟨rfl, rfl⟩); simp only [Act.put, List.setIfInBounds_toArray, List.set_cons_zero, List.set_cons_succ]
  apply lexF rfl; (· intro _; go_simp; (try go_bits); exact ⟨rfl, rfl⟩); simp only [Act.put, List.setIfInBounds_toArray, List.set_cons_zero, List.set_cons_succ]
  apply lexF rfl; (· intro _; go_simp; (try go_bits); exact ⟨rfl, rfl⟩); simp only [Act.put, List.setIfInBounds_toArray, List.set_cons_zero, List.set_cons_succ]
  apply lexF rfl; (· intro _; go_simp; (try go_bits); exact ⟨rfl, rfl⟩); simp only [Act.put, List.setIfInBounds_toArray, List.set_cons_zero, List.set_cons_succ]
  apply lexF rfl; (· intro _; go_simp; (try go_bits); exact ⟨rfl, rfl⟩); simp only [Act.put, List.setIfInBounds_toArray, List.set_cons_zero, List.set_cons_succ]
  refine lexEnd (fun w3 hw3 => ?_)
  go_wp2
  go_ret
  exact ⟨rfl, hWb.trans (hw3.mono (by omega))⟩

set_option maxHeartbeats 1000000 in
theorem remGood (tb : Nat) (X : XT) (pa pn : Nat) (u : Int) (w : World) (h : TrieAt w tb X) (hf : X.t.Fine) (hpa : W32 pa) (hv : vld pa (pn : Int) = true) (hg : X.t.get pa pn = some u) :
    Calls Try.prog 26 #[.pointer (some ⟨tb, 0, none⟩), .agg #[.int .u32 (pa : Int), .int .i64 (pn : Int)]] w fun e w' => e = .returned (.int .i64 0) ∧ Done tb X (X.t.remove pa pn) w w' := by
  have HV := hid hv
  have HG := hid hg
  have GET := hid (fun w' (hw : TrieAt w' tb X) => get_good tb X pa pn w' hw hf hpa hv)
  have REM := hid (rem_calls X pa pn hpa (T.get_on hf hg))
  clear hv hg hf
  go_enter Try.func26, Try.ntmps26
  go_upto_region 3 with (fail)
  obtain ⟨W1, hW1, hsz, kB, hWb⟩ := box_head pa (pn : Int) w
  have h1 := h.below hWb
  rw [← hW1]
  have hB1 : w.heap.size < W1.heap.size := by omega
  have htl := h1.lt
  clear hW1 hsz h
  have d0 := cell_of_pfx kB
  obtain ⟨r0, r1⟩ := root_cell h1.root
  refine wp_region_text (fun w' => Below W1.heap.size W1 w') [1, 1, 0] (by exact Below.refl _ _) ?_
  apply lexH rfl; (· intro w' hw'; have hcc := cellsBelow hw'; go_simp; (try go_bits); exact ⟨rfl, hw'⟩); simp only [Act.put, List.setIfInBounds_toArray, List.set_cons_zero, List.set_cons_succ]
  apply lexH rfl
  · intro w' hw'; go_simp; (try go_bits); refine (valid_any pa pn _ hpa).mono ?_; rintro e w'' ⟨rfl, hbb⟩; exact ⟨_, rfl, congrArg Value.bool HV.out, hw'.trans (hbb.mono hw'.size)⟩
  simp only [Act.put, List.setIfInBounds_toArray, List.set_cons_zero, List.set_cons_succ]
  apply lexF rfl; (· intro _; go_simp; (try go_bits); exact ⟨rfl, rfl⟩); simp only [Act.put, List.setIfInBounds_toArray, List.set_cons_zero, List.set_cons_succ]
  refine lexEnd (fun w2 hw2 => ?_)
  go_upto_region 5 with (fail)
  refine wp_region_text (fun w' => Below W1.heap.size W1 w') [0, 1, 1, 0, 0, 0, 0, 0] (by exact hw2) ?_
  apply lexF rfl; (· intro _; go_simp; (try go_bits); exact ⟨rfl, rfl⟩); simp only [Act.put, List.setIfInBounds_toArray, List.set_cons_zero, List.set_cons_succ]
  apply lexH rfl; (· intro w' hw'; have hcc := cellsBelow hw'; go_simp; (try go_bits); exact ⟨rfl, hw'⟩); simp only [Act.put, List.setIfInBounds_toArray, List.set_cons_zero, List.set_cons_succ]
  apply lexH rfl
  · intro w' hw'; go_simp; (try go_bits); refine (GET.out _ (h1.below hw')).mono ?_; rintro e w'' ⟨rfl, hbb⟩; exact ⟨_, rfl, congrArg getV HG.out, hw'.trans (hbb.mono hw'.size)⟩
  simp only [Act.put, List.setIfInBounds_toArray, List.set_cons_zero, List.set_cons_succ]
  apply lexF rfl; (· intro _; go_simp; (try go_bits); exact ⟨rfl, rfl⟩); simp only [Act.put, List.setIfInBounds_toArray, List.set_cons_zero, List.set_cons_succ]
  apply lexF rfl; (· intro _; go_simp; (try go_bits); exact ⟨rfl, rfl⟩); simp only [Act.put, List.setIfInBounds_toArray, List.set_cons_zero, List.set_cons_succ]
  apply lexF rfl; (· intro _; go_simp; (try go_bits); exact ⟨rfl, rfl⟩); simp only [Act.put, List.setIfInBounds_toArray, List.set_cons_zero, List.set_cons_succ]
  apply lexF rfl; (· intro _; go_simp; (try go_bits); exact ⟨rfl, rfl⟩); simp only [Act.put, List.setIfInBounds_toArray, List.set_cons_zero, List.set_cons_succ]
  apply lexF rfl; (· intro _; go_simp; (try go_bits); exact ⟨rfl, rfl⟩); simp only [Act.put, List.setIfInBounds_toArray, List.set_cons_zero, List.set_cons_succ]
  refine lexEnd (fun w3 hw3 => ?_)
  go_upto_region 8 with (fail)
  refine wp_region_staged (fun w' => Below W1.heap.size W1 w') [0, 0, 0, 0, 1, 1, 2, 0, 0, 2] (by kernel_rfl) (by kernel_rfl) (by kernel_rfl) (by exact hw3.drew) ?_
  apply lexF rfl; (· intro _; go_simp; (try go_bits); exact ⟨rfl, rfl⟩); simp only [Act.put, List.setIfInBounds_toArray, List.set_cons_zero, List.set_cons_succ]
  apply lexF rfl; (· intro _; go_simp; (try go_bits); exact ⟨rfl, rfl⟩); simp only [Act.put, List.setIfInBounds_toArray, List.set_cons_zero, List.set_cons_succ]
  apply lexF rfl; (· intro _; go_simp; (try go_bits); exact ⟨rfl, rfl⟩); simp only [Act.put, List.setIfInBounds_toArray, List.set_cons_zero, List.set_cons_succ]
  apply lexF rfl; (· intro _; go_simp; (try go_bits); exact ⟨rfl, rfl⟩); simp only [Act.put, List.setIfInBounds_toArray, List.set_cons_zero, List.set_cons_succ]
  apply lexH rfl; (· intro w' hw'; have hcc := cellsBelow hw'; go_simp; (try go_bits); exact ⟨rfl, hw'⟩); simp only [Act.put, List.setIfInBounds_toArray, List.set_cons_zero, List.set_cons_succ]
  apply lexH rfl; (· intro w' hw'; have hcc := cellsBelow hw'; go_simp; (try go_bits); exact ⟨rfl, hw'⟩); simp only [Act.put, List.setIfInBounds_toArray, List.set_cons_zero, List.set_cons_succ]
  apply lexE (α := XT) (fun L => .pointer L.ptr) (fun L w' => L.t = X.t.remove pa pn ∧ L.In w' ∧ L.blocks.Nodup ∧ (∀ c ∈ L.blocks, c ∈ X.blocks ∨ W1.heap.size ≤ c) ∧ Chg X.blocks W1 w') rfl
  · intro w' hw'
    go_simp
    refine (REM.out.at h1.nodes h1.nodup hw').mono ?_
    rintro e w'' ⟨L, rfl, hL⟩
    exact ⟨_, rfl, L, rfl, hL⟩
  intro L
  simp only [Act.put, List.setIfInBounds_toArray, List.set_cons_zero, List.set_cons_succ]
  apply lexF rfl; (· intro _; go_simp; (try go_bits); exact ⟨rfl, rfl⟩); simp only [Act.put, List.setIfInBounds_toArray, List.set_cons_zero, List.set_cons_succ]
  apply lexF rfl; (· intro _; go_simp; (try go_bits); exact ⟨rfl, rfl⟩); simp only [Act.put, List.setIfInBounds_toArray, List.set_cons_zero, List.set_cons_succ]
  apply lexS (fun w' => Done tb X (X.t.remove pa pn) w w') rfl
  · rintro w' ⟨q1, q2, q3, q4, q5⟩
    obtain ⟨s0, s1⟩ := root_cell ((q5.block tb htl h1.apart).trans h1.root)
    have Q1 := hid q1
    clear q1
    go_simp
    exact ⟨rfl, done_store h1 hWb Q1.out q2 q3 q4 q5⟩
  simp only [Act.put]
  refine lexEnd (fun w5 hw5 => ?_)
  go_wp2
  go_ret
  exact ⟨rfl, hw5⟩

end Go.Proofs.Ytklkldnpgecajaa
