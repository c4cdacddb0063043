/- The reference's table of routes: Put of an empty table, Remove. -/
import Derived.Test.YtklkldnpgecajaaRefC
namespace Go.Proofs.Ytklkldnpgecajaa
open Go.RowKit Go.Shelf

set_option maxRecDepth 100000 in
set_option maxHeartbeats 1000000 in
theorem rput_nil (p : Option Addr) (c : Nat) (r : Rt) (w : World) (ha : W32 r.a) (hv : vld r.a (r.n : Int) = true) :
    Calls Try.prog 47 #[.slice p 0 c, .agg #[.int .u32 (r.a : Int), .int .i64 (r.n : Int), .int .i64 r.v]] w fun e w' =>
      ∃ v', e = .returned (.tuple #[v', .int .i64 0]) ∧ RowL w' w.heap.size v' [r] ∧ Below w.heap.size w w' := by
  obtain ⟨i0, hi, hz0, hz1, hz2⟩ := info_parts infoR
  have HV := hid (fun w1 => rvalid_any r.a r.n w1 ha)
  rw [hv] at HV
  clear hv
  go_enter Try.func47, Try.ntmps47
  go_wp2_with fail
  obtain ⟨W1, hW1, hsz, kB, hWb⟩ := rt_box r.a r.n r.v w
  rw [← hW1]
  have hB1 : w.heap.size < W1.heap.size := by omega
  clear hW1 hsz
  obtain ⟨d0, d1, d2⟩ := cell_of_box3 kB
  go_wp2_with (go_at_call 27; refine (HV.out _).mono ?_; clear HV; rintro e w2 ⟨rfl, hw2⟩)
  have hcc := cellsBelow hw2
  go_loop [6, 7, 8] (fun ov d i => ov = .slice none 0 0 ∧ d = .bool false ∧ i = .int .i64 0) (fun _ _ _ => 0)
  case atStart => exact ⟨rfl, rfl, rfl⟩
  case round =>
    obtain ⟨rfl, rfl, rfl⟩ := hrel
    have ho : RowL w2 W1.heap.size (.slice none 0 0) [] := World.ownsRow_nil _ _ _ _
    go_wp2_with (at_builtin; refine wpList_append_own _ rfl _ _ 26 rfl W1.heap.size 37 i0 _ 3 24 Try.underlying26 hi hz0 hz1 hz2 rfl (by decide) _ _ _ rfl (ho.alloc _) ⟨w2.heap.size, 0, none⟩ 1 1 (Rt.cells r) rfl rfl (cells_new w2 r _) (one_rt _) (by simp [maxLen]) (by simp) (by have := hw2.size; simp; omega) ?_; intro v' w5 hown' hgrow _; have hb5 := row_step hw2 ho hw2.size hgrow; replace hown' := row_snoc hown')
    go_ret2
    exact ⟨_, rfl, row_mono hown' (by omega), hWb.trans (hb5.mono (by omega))⟩
theorem rput_any (v : Value) (L : List Rt) (r : Rt) (w : World) (hT : TabV w v L) (hc : L.length ≤ 1000000) (ha : W32 r.a) (hv : vld r.a (r.n : Int) = true) :
    Calls Try.prog 47 #[v, .agg #[.int .u32 (r.a : Int), .int .i64 (r.n : Int), .int .i64 r.v]] w fun e w' =>
      ∃ v', e = .returned (.tuple #[v', .int .i64 0]) ∧ RowL w' w.heap.size v' (putL r false L) ∧ Below w.heap.size w w' := by
  by_cases hL : L = []
  · subst hL
    obtain ⟨p, c, rfl⟩ := tab_empty hT
    exact rput_nil p c r w ha hv
  · obtain ⟨g, c, rfl, h, _⟩ := tab_some hT hL
    exact rput_loop g c L r w h hc ha hv

/-! ### Remove -/
theorem does_append {P : Program} {R : Value → World → Prop} {o : Oper} {a : Act} {w : World} (s x : Operand) (t : TypeId)
    (ho : o.op = .call { callee := .builtin .append, args := #[s, x], argTypes := #[t, t] })
    (base : Nat) (e : TypeId) (i : TypeInfo) (z : Value) (size bytes : Nat) (ht : P.underlying t = some (.slice e)) (hi : P.info? e = some i) (hz : i.zero = some z)
    (hsize : i.size = size) (hby : i.bytes = bytes) (hzs : z.cells.size = size) (hsz : 0 < size)
    (v : Value) (n : Nat) (xs : List Value) (hs : a.eval s = v) (hown : w.ownsRow base e size v n xs)
    (ad : Addr) (m c : Nat) (news : List Value) (hx : a.eval x = .slice (some ad) m c) (hl : news.length = m * size) (hnews : ∀ j u, news[j]? = some u → w.cell? (ad.add j) = some u) (h1 : ∀ u ∈ news, u.oneCell' = true)
    (h63 : n + m ≤ maxLen) (hbytes : (n + m) * bytes ≤ 140737488355328) (hbase : base ≤ w.heap.size)
    (h : ∀ v' w', w'.ownsRow base e size v' (n + m) (xs ++ news) → w.grownBy w' v.ownBlock → R v' w') : Does P R ((execOp a.eval o).run P w) := by
  obtain ⟨v', w', hr, h2, h3, h4⟩ := run_append_own (P := P) w base t o.type e i z size bytes ht hi hz hsize hby hzs hsz v n xs hown ad m c news hl hnews h1 h63 hbytes hbase
  unfold execOp
  simp only [ho, resolve, invoke, builtin, Sem.run_bind, Sem.run_pure, Result.andThen_ok, List.map_toArray, List.map_cons, List.map_nil, hs, hx, hr]
  exact h v' w' h2 h3

set_option maxHeartbeats 1000000 in
theorem rrem_bad (v : Value) (a : Nat) (n : Int) (w : World) (ha : W32 a) (hv : vld a n = false) :
    Calls Try.prog 46 #[v, .agg #[.int .u32 (a : Int), .int .i64 n]] w fun e w' => e = .returned (.tuple #[v, .int .i64 1]) ∧ Below w.heap.size w w' := by
  have HV := hid (fun w1 => rvalid_any a n w1 ha)
  rw [hv] at HV
  clear hv
  go_enter Try.func46, Try.ntmps46
  go_wp2_with fail
  obtain ⟨W1, hW1, hsz, kB, hWb⟩ := box_head a n w
  rw [← hW1]
  have hB1 : w.heap.size < W1.heap.size := by omega
  clear hW1 hsz
  have d0 := cell_of_pfx kB
  go_wp2_with (go_at_call 27; refine (HV.out _).mono ?_; rintro e w2 ⟨rfl, hw2⟩)
  go_ret2
  exact ⟨rfl, hWb.trans (hw2.mono (by omega))⟩

set_option maxHeartbeats 1000000 in
theorem rrem_none (v : Value) (L : List Rt) (a : Nat) (n : Nat) (w : World) (hT : TabV w v L) (hc : L.length ≤ 1000000) (ha : W32 a) (hv : vld a (n : Int) = true) (hn : fndI a (n : Int) 0 L = -1) :
    Calls Try.prog 46 #[v, .agg #[.int .u32 (a : Int), .int .i64 (n : Int)]] w fun e w' => e = .returned (.tuple #[v, .int .i64 8]) ∧ Below w.heap.size w w' := by
  have HV := hid (fun w1 => rvalid_any a n w1 ha)
  have HF := hid (fun w1 hT => find_any v L a n w1 hT hc)
  rw [hv] at HV
  rw [hn] at HF
  clear hv hn
  go_enter Try.func46, Try.ntmps46
  go_wp2_with fail
  obtain ⟨W1, hW1, hsz, kB, hWb⟩ := box_head a n w
  have hT1 := hT.below hWb
  rw [← hW1]
  have hB1 : w.heap.size < W1.heap.size := by omega
  clear hW1 hsz hT
  have d0 := cell_of_pfx kB
  go_wp2_with (first
    | (go_at_call 27; refine (HV.out _).mono ?_; clear HV; rintro e w2 ⟨rfl, hw2⟩; have hcc := cellsBelow hw2)
    | (go_at_call 39; refine (HF.out _ (hT1.below hw2)).mono ?_; clear HF; rintro e w3 ⟨rfl, hw3⟩))
  go_ret2
  exact ⟨rfl, hWb.trans ((hw2.trans (hw3.mono hw2.size)).mono (by omega))⟩

end Go.Proofs.Ytklkldnpgecajaa
