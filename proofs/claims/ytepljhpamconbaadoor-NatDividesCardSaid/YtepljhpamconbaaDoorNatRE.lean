/- The reference: Make. -/
import Derived.Test.YtepljhpamconbaaDoorNatRD
namespace Go.Proofs.YtepljhpamconbaaDoor
open Go.RowKit

/-- Digits that came in: a slice at whatever place of whatever block. -/
def InV (W : World) (s : Value) (ds : List Nat) : Prop := (ds = [] ∧ ∃ p c, s = .slice p 0 c) ∨ ∃ b off c, s = .slice (some ⟨b, off, none⟩) ds.length c ∧ b < W.heap.size ∧ ∀ k (h : k < ds.length), W.cell? ⟨b, off + k, none⟩ = some (.int .u32 (ds[k] : Int))
theorem InV.below {W W' : World} {s : Value} {ds : List Nat} (h : InV W s ds) (hb : Below W.heap.size W W') : InV W' s ds :=
  h.imp id fun ⟨b, o, c, e, h1, h2⟩ => ⟨b, o, c, e, Nat.lt_of_lt_of_le h1 hb.size, fun k hk => (hb.cell (p := ⟨b, o + k, none⟩) h1).trans (h2 k hk)⟩
theorem InV.slice {W : World} {s : Value} {ds : List Nat} (h : InV W s ds) : ∃ p c, s = .slice p ds.length c ∧ (ds ≠ [] → ∃ b off, p = some ⟨b, off, none⟩ ∧ b < W.heap.size ∧ ∀ k (h : k < ds.length), W.cell? ⟨b, off + k, none⟩ = some (.int .u32 (ds[k] : Int))) := by
  rcases h with ⟨rfl, p, c, rfl⟩ | ⟨b, off, c, rfl, h1, h2⟩
  · exact ⟨p, c, rfl, fun h => absurd rfl h⟩
  · exact ⟨_, c, rfl, fun _ => ⟨b, off, rfl, h1, h2⟩⟩
theorem digs6_len {n L : Nat} (h : n < B32 ^ L) : (digs B6 n).length ≤ 2 * L := by
  refine digs_len_le b6_2 _ _ (Nat.lt_of_lt_of_le h ?_)
  have h1 : B32 ^ L ≤ (B6 ^ 2) ^ L := Nat.pow_le_pow_left (by decide) L
  rwa [← Nat.pow_mul] at h1
theorem RefV.nil (W : World) (t : TypeId) : RefV (W.alloc (.cells #[] t)) (.slice (some ⟨W.heap.size, 0, none⟩) 0 0) 0 := .inl ⟨digs_zero, _, _, rfl⟩

set_option maxRecDepth 100000 in
set_option maxHeartbeats 4000000 in
theorem make_any (v : Value) (ds : List Nat) (w : World) (hv : InV w v ds) (hd : ∀ d ∈ ds, d < B32) (hl : ds.length ≤ 1000) :
    Calls Tryd.prog 38 #[v] w fun e w' => ∃ v', e = .returned v' ∧ RefV w' v' (val B32 ds) ∧ Below w.heap.size w w' := by
  obtain ⟨p, cp, rfl, hpg⟩ := hv.slice
  have HPG := hid hpg
  have HD := hid hd
  clear hv hpg hd
  go_enter Tryd.func38, Tryd.ntmps38
  go_wp2_with fail
  go_loopw [3, 4] (fun o i wr => ∃ k : Nat, k ≤ ds.length ∧ i = .int .i64 k ∧ RefV wr o (val B32 (ds.drop (ds.length - k))) ∧ Below w.heap.size w wr) (fun _ i _ => ds.length - (intOf i).toNat)
  case atStart => exact ⟨0, Nat.zero_le _, rfl, by rw [Nat.sub_zero, List.drop_length]; exact RefV.nil w _, (Below.refl _ _).alloc (Nat.le_refl _) _⟩
  case round =>
    obtain ⟨k, hk, rfl, href, hold⟩ := hrel
    generalize wr = W1 at href hold ⊢
    generalize u3 = o at href ⊢
    by_cases hlt : k < ds.length
    · obtain ⟨b, off, rfl, hb, hcells⟩ := HPG.out (fun e => by subst e; simp at hlt)
      have hj : ds.length - 1 - k < ds.length := by omega
      have hb1 := Nat.lt_of_lt_of_le hb hold.size
      have hc1 := (hold.cell (p := ⟨b, off + (ds.length - 1 - k), none⟩) hb).trans (hcells _ hj)
      have hdk := HD.out _ (List.getElem_mem hj)
      have HN := hid (show val B32 (ds.drop (ds.length - (k + 1))) = val B32 (ds.drop (ds.length - k)) * 4294967296 + ds[ds.length - 1 - k] by
        rw [show ds.length - (k + 1) = ds.length - 1 - k by omega, val_drop hj, show ds.length - 1 - k + 1 = ds.length - k by omega, b32]; omega)
      have hnb : val B32 (ds.drop (ds.length - k)) < B32 ^ k := by
        have := val_lt b32_2 (l := ds.drop (ds.length - k)) (fun d h => HD.out d (List.mem_of_mem_drop h))
        rwa [List.length_drop, show ds.length - (ds.length - k) = k by omega] at this
      have hnb2 : val B32 (ds.drop (ds.length - (k + 1))) < B32 ^ (k + 1) := by
        have := val_lt b32_2 (l := ds.drop (ds.length - (k + 1))) (fun d h => HD.out d (List.mem_of_mem_drop h))
        rwa [List.length_drop, show ds.length - (ds.length - (k + 1)) = k + 1 by omega] at this
      have hl6 := digs6_len hnb
      obtain ⟨d, hdd⟩ : ∃ d, ds[ds.length - 1 - k] = d := ⟨_, rfl⟩
      obtain ⟨n, hn⟩ : ∃ n, val B32 (ds.drop (ds.length - k)) = n := ⟨_, rfl⟩
      rw [hdd] at hc1 hdk HN
      rw [hn] at HN href hl6
      rw [b32] at hdk
      have hl7 : (digs B6 (n * 4294967296)).length ≤ 100000 := by
        have := digs6_len hnb2
        rw [HN.out] at this
        have h2 : (digs B6 (n * 4294967296)).length ≤ (digs B6 (n * 4294967296 + d)).length := Nat.le_of_not_lt fun h => absurd (digs_len_mono b6_2 h) (Nat.not_lt.2 (Nat.le_add_right _ _))
        exact Nat.le_trans h2 (Nat.le_trans this (by clear this h2; omega))
      have hl8 : (digs B6 d).length ≤ 100000 := Nat.le_trans (digs6_len (L := 1) (by rw [b32]; omega)) (by omega)
      have HTM := hid (fun (w1 : World) (hb : Below W1.heap.size W1 w1) => times_any o n 4294967296 w1 (href.below hb) (by omega) (by omega))
      have HOF := hid (fun (w1 : World) => rof_any d w1 (by omega))
      have hti : (k : Int) < (ds.length : Int) := by omega
      have EJ := hid (show (ds.length : Int) - 1 - (k : Int) = ((ds.length - 1 - k : Nat) : Int) by omega)
      clear hdd hn hnb hnb2
      go_upto_region 5 with (fail)
      refine wp_region_stagedP (fun w' => Below W1.heap.size W1 w') (fun w' => Below W1.heap.size W1 w') [0, 2, 0, 0, 0, 0, 0, 0, 0, 0, 0, 2, 2, 0] (by kernel_rfl) (by kernel_rfl) (by kernel_rfl) (fun _ h => h) ((Below.refl _ _).drew) ?_
      apply lexF rfl; (· intro _; go_simp; (try go_bits); exact ⟨rfl, rfl⟩); simp only [Act.put, List.setIfInBounds_toArray, List.set_cons_zero, List.set_cons_succ]
      apply lexE (hP := fun _ _ h => h.1) (α := Value) (fun v => v) (fun v w' => Below W1.heap.size W1 w' ∧ RefV w' v (n * 4294967296)) rfl
      · intro w' hw'
        go_simp
        refine (HTM.out _ hw').mono ?_
        rintro e w3 ⟨v', rfl, hv', hw3⟩
        exact ⟨_, rfl, hw'.trans (hw3.mono hw'.size), hv'⟩
      intro v1
      have ej := EJ.out
      simp only [Act.put, List.setIfInBounds_toArray, List.set_cons_zero, List.set_cons_succ]
      apply lexF rfl; (· intro _; go_simp; (try go_bits); exact ⟨rfl, rfl⟩); simp only [Act.put, List.setIfInBounds_toArray, List.set_cons_zero, List.set_cons_succ]
      apply lexF rfl; (· intro _; go_simp; (try go_bits); exact ⟨rfl, rfl⟩); simp only [Act.put, List.setIfInBounds_toArray, List.set_cons_zero, List.set_cons_succ]
      apply lexF rfl; (· intro _; go_simp; (try go_bits); exact ⟨rfl, rfl⟩); simp only [Act.put, List.setIfInBounds_toArray, List.set_cons_zero, List.set_cons_succ]
      apply lexF rfl; (· intro _; go_simp; (try go_bits); exact ⟨rfl, rfl⟩); simp only [Act.put, List.setIfInBounds_toArray, List.set_cons_zero, List.set_cons_succ]
      apply lexF rfl; (· intro _; go_simp; (try go_bits); exact ⟨rfl, rfl⟩); simp only [Act.put, List.setIfInBounds_toArray, List.set_cons_zero, List.set_cons_succ]
      apply lexF rfl; (· intro _; go_simp; (try go_bits); exact ⟨rfl, rfl⟩); simp only [Act.put, List.setIfInBounds_toArray, List.set_cons_zero, List.set_cons_succ]
      apply lexF rfl; (· intro _; go_simp; (try go_bits); exact ⟨rfl, rfl⟩); simp only [Act.put, List.setIfInBounds_toArray, List.set_cons_zero, List.set_cons_succ]
      apply lexP rfl
      · intro w' hw'; have hcc := cellsBelow hw'; go_simp; (try go_bits); exact ⟨rfl, rfl⟩
      simp only [Act.put, List.setIfInBounds_toArray, List.set_cons_zero, List.set_cons_succ]
      apply lexF rfl; (· intro _; go_simp; (try go_bits); exact ⟨rfl, rfl⟩); simp only [Act.put, List.setIfInBounds_toArray, List.set_cons_zero, List.set_cons_succ]
      clear ej
      apply lexE (hP := fun _ _ h => h.1) (α := Value) (fun v => v) (fun v w' => Below W1.heap.size W1 w' ∧ RefV w' v1 (n * 4294967296) ∧ RefV w' v d) rfl
      · rintro w' ⟨hw', h1⟩
        go_simp
        refine (HOF.out _).mono ?_
        rintro e w3 ⟨v', rfl, hv', hw3⟩
        exact ⟨_, rfl, hw'.trans (hw3.mono hw'.size), h1.below hw3, hv'⟩
      intro v2
      simp only [Act.put, List.setIfInBounds_toArray, List.set_cons_zero, List.set_cons_succ]
      apply lexE (hP := fun _ _ h => h.1) (α := Value) (fun v => v) (fun v w' => Below W1.heap.size W1 w' ∧ RefV w' v (n * 4294967296 + d)) rfl
      · rintro w' ⟨hw', h1, h2⟩
        have HAD := hid (radd_any v1 v2 _ _ w' h1 h2 hl7 hl8)
        go_simp
        refine HAD.out.mono ?_
        rintro e w3 ⟨v', rfl, hv', hw3⟩
        exact ⟨_, rfl, hw'.trans (hw3.mono hw'.size), hv'⟩
      intro v3
      simp only [Act.put, List.setIfInBounds_toArray, List.set_cons_zero, List.set_cons_succ]
      apply lexF rfl; (· intro _; go_simp; (try go_bits); exact ⟨rfl, rfl⟩); simp only [Act.put, List.setIfInBounds_toArray, List.set_cons_zero, List.set_cons_succ]
      refine lexEnd (fun W5 hw5 => ?_)
      obtain ⟨hb5, hr5⟩ := hw5
      go_wp2
      go_roundw
      case rel => exact ⟨k + 1, by omega, by go_num, by rw [HN.out]; exact hr5, hold.trans (hb5.mono hold.size)⟩
      case measure => simp [intOf]; omega
    · obtain rfl : k = ds.length := by omega
      rw [Nat.sub_self, List.drop_zero] at href
      go_wp2
      go_ret
      exact ⟨_, rfl, href, hold⟩

end Go.Proofs.YtepljhpamconbaaDoor
