/- The walk of TrieOrder. -/
import Derived.Test.YtklkldnpgecajaaLaws
namespace Go.Proofs.Ytklkldnpgecajaa
open Go.RowKit Go.Shelf

/-- What has been put so far, from the last place down. -/
def Some' (L : List Rt) (m k : Nat) (x : Rt) : Prop := ∃ j, k < j ∧ j ≤ L.length ∧ ∃ h : (j + m) % L.length < L.length, x = L[(j + m) % L.length]
theorem key_inj {L : List Rt} (hs : L.Pairwise Rt.lt) {x y : Rt} (hx : x ∈ L) (hy : y ∈ L) (h : x.is y.a y.n) : x = y := by
  obtain ⟨i, hi, rfl⟩ := List.mem_iff_getElem.1 hx
  obtain ⟨j, hj, rfl⟩ := List.mem_iff_getElem.1 hy
  have hp := List.pairwise_iff_getElem.1 hs
  rcases Nat.lt_trichotomy i j with hij | hij | hij
  · have := hp i j hi hj hij; unfold Rt.is at h; unfold Rt.lt at this; omega
  · subst hij; rfl
  · have := hp j i hj hi hij; unfold Rt.is at h; unfold Rt.lt at this; omega
theorem some_step {L l : List Rt} {m k : Nat} (hs : L.Pairwise Rt.lt) (hk : k + 1 ≤ L.length) (hl : ∀ x, x ∈ l ↔ Some' L m (k + 1) x) (hr : (k + 1 + m) % L.length < L.length) (r : Rt) (hrr : r = L[(k + 1 + m) % L.length]) :
    ∀ x, x ∈ putL r false l ↔ Some' L m k x := fun x => by
  have hrL : r ∈ L := by rw [hrr]; exact List.getElem_mem hr
  have hsub : ∀ x ∈ l, x ∈ L := fun x hx => by obtain ⟨j, _, _, h, rfl⟩ := (hl x).1 hx; exact List.getElem_mem h
  rw [putL_mem]
  constructor
  · rintro (⟨_, rfl⟩ | ⟨h, _⟩)
    · exact ⟨k + 1, by omega, hk, hr, hrr⟩
    · obtain ⟨j, h1, h2, h3, h4⟩ := (hl x).1 h
      exact ⟨j, by omega, h2, h3, h4⟩
  · rintro ⟨j, h1, h2, h3, h4⟩
    by_cases hj : j = k + 1
    · subst hj; exact .inl ⟨rfl, h4.trans hrr.symm⟩
    · have hx : x ∈ l := (hl x).2 ⟨j, by omega, h2, h3, h4⟩
      by_cases he : x.is r.a r.n
      · exact .inl ⟨rfl, key_inj hs (hsub x hx) hrL he⟩
      · exact .inr ⟨hx, he⟩
theorem some_all {L : List Rt} {m : Nat} {x : Rt} : Some' L m 0 x ↔ x ∈ L := by
  constructor
  · rintro ⟨j, _, _, h, rfl⟩; exact List.getElem_mem h
  · intro hx
    obtain ⟨i, hi, rfl⟩ := List.mem_iff_getElem.1 hx
    have hlen : 0 < L.length := by omega
    have hm := Nat.mod_lt m hlen
    have hd := Nat.div_add_mod m L.length
    by_cases h : m % L.length < i
    · have e : (i - m % L.length + m) % L.length = i := by
        rw [show i - m % L.length + m = i + L.length * (m / L.length) by omega, Nat.add_mul_mod_self_left, Nat.mod_eq_of_lt hi]
      exact ⟨i - m % L.length, by omega, by omega, by rw [e]; exact hi, by simp only [e]⟩
    · have e : (i + L.length - m % L.length + m) % L.length = i := by
        rw [show i + L.length - m % L.length + m = i + L.length * (m / L.length + 1) by rw [Nat.mul_add]; omega, Nat.add_mul_mod_self_left, Nat.mod_eq_of_lt hi]
      exact ⟨i + L.length - m % L.length, by omega, by omega, by rw [e]; exact hi, by simp only [e]⟩
theorem count_of_list {t u : T} (ht : t.Ok) (hu : u.Ok) (h : t.list = u.list) : t.count = u.count := by
  rw [← t.pfx_len, ← u.pfx_len]
  exact len_eq ht.nodup hu.nodup fun q => by rw [nodes_law q ht, nodes_law q hu, h]
theorem stepL_good {r : Rt} {l : List Rt} (hv : V r.a r.n) : insL r.a (r.n : Int) r.v l = (putL r false l, 0) := by
  unfold insL; rw [if_pos hv.vld]; rfl

set_option maxRecDepth 100000 in
set_option maxHeartbeats 2000000 in
theorem order_any (v : Value) (ops : List Op) (turn : Int) (w : World) (hO : OpsV w v ops) (hw : ∀ o ∈ ops, W32 o.a) :
    Calls Try.prog 6 #[v, .int .i64 turn] w fun e w' => e = .returned (.bool true) ∧ Below w.heap.size w w' := by
  obtain ⟨p, c, rfl⟩ := ops_len hO
  have HB := hid (fun w1 (h : OpsV w1 (.slice p ops.length c) ops) (h1 : ops.length ≤ 80) => build_any _ ops w1 h h1 hw)
  clear hw
  by_cases hl : ops.length ≤ 60
  · go_enter Try.func6, Try.ntmps6
    go_upto_region 6 with (first
      | (go_at_call 10; refine (awake_any _).mono ?_; rintro e w1 ⟨rfl, hb1⟩)
      | (go_at_call 11; refine (HB.out _ (hO.below hb1) (by omega)).mono ?_; clear HB; rintro e w2 ⟨tb, t, u, rfl, hB, htl⟩))
    obtain ⟨q, c2, rfl⟩ := row_len hB.row
    go_wp2_with (first
      | (go_at_call 21; refine (has_new _).mono ?_; rintro e w3 ⟨rfl, H0, hb3, hl3⟩))
    have hB3 := hB.below hb3
    have hs3 := hB.has.old.2
    have HS := hid hB.ok.sorted
    have HV := hid (fun x (hx : x ∈ t.list) => (hB.ok.mem x hx).2.1)
    obtain ⟨M, hM⟩ : ∃ M : Nat, max 0 (turn.tmod 100) = (M : Int) := ⟨(max 0 (turn.tmod 100)).toNat, by omega⟩
    have hM99 : M ≤ 99 := by have := Int.tmod_lt_of_pos turn (show (0 : Int) < 100 by omega); omega
    go_loopw [9] (fun i wr => ∃ (k : Nat) (t2 : T), k ≤ t.list.length ∧ i = .int .i64 k ∧ t2.Ok ∧ (∀ x, x ∈ t2.list ↔ Some' t.list M k x) ∧ Has w2.heap.size w2 wr w2.heap.size t2 []) (fun i _ => (intOf i).toNat)
    case atStart => exact ⟨t.list.length, .nil, Nat.le_refl _, rfl, show T.Wf .nil 0 0 from trivial, fun x => ⟨fun h => (by cases h), fun ⟨j, h1, h2, _⟩ => (by omega)⟩, H0⟩
    case round =>
      obtain ⟨k, t2, hk, rfl, h2ok, h2m, h2h⟩ := hrel
      clear H0 hb3 hl3 hB3
      by_cases hk0 : k = 0
      · subst hk0
        have hall : t2.list = t.list := sorted_ext h2ok.sorted HS.out fun x => (h2m x).trans some_all
        have hb23 := h2h.old.1
        have hBr := hB.below hb23
        have HC := hid (count_of_list h2ok hB.ok hall)
        have HA := hid hall
        have h2 : Has w2.heap.size w2 wr w2.heap.size t2 [] := h2h
        have HT80 := hid htl
        have HT80' := hid (show t2.list.length ≤ 80 by rw [hall]; exact htl)
        clear hall h2m hM hM99 hb23
        go_wp2_with (first
          | (go_at_call 13; refine (b_routes hBr HT80.out).mono ?_; rintro e w5 ⟨u5, rfl, h5, hB5, hb5⟩; clear hBr; replace h2 := h2.below hb5)
          | (go_at_call 13; refine (routes_any _ _ _ h2.all (by have := HT80'.out; omega)).mono ?_; rintro e w6 ⟨u6, rfl, h6, hb6⟩; rw [HA.out] at h6; replace h6 := tab_of_row h6; replace h5 := h5.below hb6; have hB6 := hB5.below hb6; clear hB5; replace h2 := h2.below hb6)
          | (go_at_call 12; refine (b_same hB6 h5 h6 HT80.out).mono ?_; rintro e w7 ⟨rfl, hB7, hb7⟩; replace h2 := h2.below hb7)
          | (go_at_call 15; refine (b_nodes hB7 HT80.out).mono ?_; rintro e w8 ⟨rfl, hB8, hb8⟩; clear hB7; replace h2 := h2.below hb8)
          | (go_at_call 15; refine (has_nodes h2 (by have := count_le h2ok; have := HT80'.out; omega)).mono ?_; rintro e w9 ⟨rfl, hb9⟩; rw [HC.out]; have hB9 := hB8.below hb9; clear hB8; have h2a := h2.below hb9; clear h2)
          | (go_at_call 14; refine (b_len hB9 HT80.out).mono ?_; rintro e w10 ⟨rfl, hB10, hb10⟩; clear hB9; have h2b := h2a.below hb10)
          | (go_at_call 14; refine (len_any _ _ _ h2b.all (by have := HT80'.out; omega)).mono ?_; rintro e w11 ⟨rfl, hb11⟩; rw [HA.out]; have hB11 := hB10.below hb11))
        go_ret
        exact ⟨rfl, hb1.trans (hB11.has.old.1.mono hb1.size)⟩
      · have hlen0 : 0 < t.list.length := by omega
        have hlt : (k + M) % t.list.length < t.list.length := Nat.mod_lt _ hlen0
        have hL : t.list ≠ [] := fun e => by rw [e] at hlen0; cases hlen0
        obtain ⟨gt, ct, hv, hT, _⟩ := tab_some hB.tab hL
        have hb23 := h2h.old.1
        injection hv with e1 _ e3
        subst e1 e3
        obtain ⟨k', hk'⟩ : ∃ k', k = k' + 1 := ⟨k - 1, by omega⟩
        have HK := hid hk'
        have g0 := (hb23.cell (p := ⟨gt, (k + M) % t.list.length * 3, none⟩) hT.lt).trans (hT.at0 _ hlt)
        have g1 := (hb23.cell (p := ⟨gt, (k + M) % t.list.length * 3 + 1, none⟩) hT.lt).trans (hT.at1 _ hlt)
        have g2 := (hb23.cell (p := ⟨gt, (k + M) % t.list.length * 3 + 2, none⟩) hT.lt).trans (hT.at2 _ hlt)
        obtain ⟨⟨ra, rn, rv⟩, hr⟩ : ∃ r, r = t.list[(k + M) % t.list.length] := ⟨_, rfl⟩
        have HR := hid hr
        have HM := hid (some_step (L := t.list) (l := t2.list) (m := M) (k := k') HS.out (by omega) (fun x => by rw [hk'] at h2m; exact h2m x) (by rw [← hk']; exact hlt) ⟨ra, rn, rv⟩ (by simp only [← hk']; exact hr))
        have hrV : V ra rn := HV.out ⟨ra, rn, rv⟩ (by rw [hr]; exact List.getElem_mem hlt)
        rw [← hr] at g0 g1 g2
        dsimp only at g0 g1 g2
        have HP := hid (tput_all h2h h2ok ra (rn : Int) rv hrV.w32)
        rw [show insL ra (rn : Int) rv t2.list = (putL ⟨ra, rn, rv⟩ false t2.list, 0) from stepL_good (r := ⟨ra, rn, rv⟩) hrV] at HP
        clear hr hk' h2m hrV hb23
        have q1 : ((k : Int) + (M : Int)) % (t.list.length : Int) < (t.list.length : Int) := Int.emod_lt_of_pos _ (by omega)
        have q2 : 0 ≤ ((k : Int) + (M : Int)) % (t.list.length : Int) := Int.emod_nonneg _ (by omega)
        go_wp2_with (go_at_call 22; refine HP.out.mono ?_; clear HP; rintro e w5 ⟨rfl, ⟨t3, h3ok, h3l, h3h⟩, _⟩)
        exact ⟨⟨k', t3, by have := HK.out; omega, by rw [show ((k : Int) - 1) = (k' : Int) by have := HK.out; omega], h3ok, fun x => by rw [h3l]; exact HM.out x, h3h⟩, by simp [intOf]; have := HK.out; omega⟩
  · have hl' : (60 : Int) < (ops.length : Int) := by omega
    clear HB
    go_enter Try.func6, Try.ntmps6
    go_upto_region 2 with (go_at_call 10; refine (awake_any _).mono ?_; rintro e w1 ⟨rfl, hb1⟩)
    go_wp2_with (go_at_call 10; refine (awake_any _).mono ?_; rintro e w2 ⟨rfl, hb2⟩)
    go_ret
    exact ⟨rfl, hb1.trans (hb2.mono hb1.size)⟩

end Go.Proofs.Ytklkldnpgecajaa
