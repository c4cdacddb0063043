/- The law NatParse. -/
import Derived.Test.YtepljhpamconbaaDoorNatX
import Derived.Test.YtepljhpamconbaaDoorNatRH
namespace Go.Proofs.YtepljhpamconbaaDoor
open Go.RowKit
open Go.Lib (decDigits)

theorem parseVal_lt {l : List UInt8} {L : Nat} (h : l.length ≤ L) : parseVal l < 10 ^ L := by
  unfold parseVal
  split
  · rename_i h0
    have hd : ∀ c ∈ l, isDig c = true := fun c hc => by
      cases hi : isDig c with
      | true => rfl
      | false =>
        have := parse_syn (l := l) (.inr (.inr ⟨c, hc, hi⟩))
        rw [h0] at this; cases this
    exact Nat.lt_of_lt_of_le (valT_lt _ l rfl hd) (Nat.pow_le_pow_right (by decide) h)
  · exact Nat.pow_pos (by decide)
theorem pow_b32 (k : Nat) : B32 ^ k = 2 ^ (32 * k) := by rw [Nat.pow_mul]; rfl
theorem lim_dec {n L : Nat} (h : n < 10 ^ L) (hL : L ≤ 1000) : Lim n := by
  have h1 : 10 ^ L ≤ (2 ^ 6) ^ L := Nat.pow_le_pow_left (by decide) L
  rw [← Nat.pow_mul] at h1
  have hle : 6 * L ≤ 32 * 200 := by omega
  exact Nat.lt_of_lt_of_le h (Nat.le_trans h1 (Nat.le_trans (Nat.pow_le_pow_right (by decide) hle) (Nat.le_of_eq (pow_b32 200).symm)))
def bCell (x : Nat) : Value := .int .u8 (x : Int)
/-- A block of bytes. -/
def ArrB (W : World) (D : Nat) (xs : List Nat) : Prop := W.heap[D]? = some (.cells (xs.map bCell).toArray 5 (0, 0))
theorem ArrB.lt {W : World} {D : Nat} {xs : List Nat} (h : ArrB W D xs) : D < W.heap.size := (Array.getElem?_eq_some_iff.1 h).1
theorem ArrB.cell {W : World} {D : Nat} {xs : List Nat} (h : ArrB W D xs) (k : Nat) (hk : k < xs.length) : W.cell? ⟨D, k, none⟩ = some (.int .u8 (xs[k] : Int)) := by
  unfold World.cell?; rw [show W.heap[(⟨D, k, none⟩ : Addr).block]? = _ from h]; simp [hk, bCell]
theorem ArrB.free {W : World} {D : Nat} {xs : List Nat} (h : ArrB W D xs) : ∀ o, W.frozen? ⟨D, o, none⟩ = false := by
  intro o; unfold World.frozen?; rw [show W.heap[(⟨D, o, none⟩ : Addr).block]? = _ from h]; simp
theorem ArrB.below {W W' : World} {D : Nat} {xs : List Nat} (h : ArrB W D xs) (hb : Below W.heap.size W W') : ArrB W' D xs := (hb.block _ h.lt).trans h
theorem ArrB.store {W : World} {D : Nat} {xs : List Nat} (h : ArrB W D xs) (k v : Nat) : ArrB (W.setCell ⟨D, k, none⟩ (.int .u8 (v : Int))) D (xs.set k v) := by
  unfold ArrB
  rw [heap_setCell_at h]
  simp [List.map_set, bCell]
theorem infoB : (Tryd.prog.info? 5).map (fun i => (i.zero, i.size, i.bytes)) = some (some (.int .u8 0), 1, 1) := by kernel_rfl
theorem arb_made {W : World} {base g n : Nat} (h : W.ownsRow base 5 1 (.slice (some ⟨g, 0, none⟩) n n) n (madeCells (Value.int .u8 0).cells (n * 1)).toList) : ArrB W g (List.replicate n 0) := by
  rcases h.2 with ⟨e, _⟩ | ⟨g', cap, cur, e, _, hg, _, _, hs, ht⟩
  · cases e
  · injection e with e1 _ e3
    injection e1 with e1
    injection e1 with e1
    subst e1 e3
    have h1 : cur.toList = List.replicate n (Value.int .u8 0) := by
      have h2 : (madeCells (Value.int .u8 0).cells (n * 1)).toList = List.replicate n (.int .u8 0) := by
        rw [Nat.mul_one]; exact toList_madeCells_one _ n
      rw [h2, List.take_of_length_le (by rw [Array.length_toList, hs]; omega)] at ht
      exact ht
    unfold ArrB
    rw [hg]
    congr 2
    rw [← Array.toArray_toList (xs := cur), h1, List.map_replicate]
    rfl
/-- A text of the digit seven. -/
def sevens (L : Nat) : ByteArray := ⟨(List.replicate L (55 : UInt8)).toArray⟩
theorem sevens_size (L : Nat) : (sevens L).size = L := by show (List.replicate L (55 : UInt8)).toArray.size = L; simp
theorem conv_sevens (W : World) (D L : Nat) (h : ArrB W D (List.replicate L 55)) : (convert 42 9 (.slice (some ⟨D, 0, none⟩) L L)).run Tryd.prog W = .ok (.string (sevens L)) W := by
  have := run_convert_bytes_back W 42 9 5 ⟨D, 0, none⟩ L (List.replicate L 55) Tryd.underlying42 Tryd.underlying5 Tryd.underlying9 (fun j hj => by
    rw [add_at, h.cell j (by simpa using hj)]
    simp)
  simpa [sevens] using this
theorem fill_step {k L : Nat} (hk : k < L) : (List.replicate k 55 ++ List.replicate (L - k) 0).set k 55 = List.replicate (k + 1) 55 ++ List.replicate (L - (k + 1)) 0 := by
  rw [show L - k = (L - (k + 1)) + 1 by omega, List.replicate_succ, List.set_append_right _ _ (by simp)]
  simp [List.replicate_succ']

set_option maxRecDepth 100000 in
set_option maxHeartbeats 4000000 in
theorem natParse_walk (s : ByteArray) (d : Nat) (w : World) (hd : d < 65536) (ht : Tab w) :
    Calls Tryd.prog 4 #[.string s, .int .u16 (d : Int)] w fun e w' => e = .returned (.bool true) ∧ Below w.heap.size w w' := by
  have HA := hid (awake_any w ht)
  by_cases hl : s.size ≤ 100
  · have hsz : ¬ (100 : Int) < (s.size : Int) := by omega
    have HP := hid (fun w1 => parse_any s w1 (by omega))
    have HR := hid (fun w1 => rparse_any s w1 (by omega))
    have HL := hid (lim_dec (parseVal_lt (l := s.data.toList) (L := 100) (by rw [str_len]; exact hl)) (by decide))
    obtain ⟨n, hn⟩ : ∃ n, parseVal s.data.toList = n := ⟨_, rfl⟩
    obtain ⟨er, her⟩ : ∃ er, parseErr s.data.toList = er := ⟨_, rfl⟩
    rw [hn, her] at HP HR
    rw [hn] at HL
    have hK := (KS.start w).add (F := fun w => Tab w) fun w' hb => ht.below hb
    obtain ⟨L, hL, hL1, hL2⟩ : ∃ L : Nat, 1 + (d : Int) % 1100 = (L : Int) ∧ 1 ≤ L ∧ L ≤ 1100 := ⟨1 + d % 1100, by omega, by omega, by omega⟩
    obtain ⟨i0, hi, hz0, hz1, hz2⟩ := info_parts infoB
    have HPL := hid (fun w1 => parse_any (sevens L) w1 (by rw [sevens_size]; omega))
    have hall : ∀ c ∈ List.replicate L (55 : UInt8), isDig c = true := fun c hc => by rw [List.eq_of_mem_replicate hc]; decide
    have hh : (List.replicate L (55 : UInt8)).head? ≠ some 48 := by
      cases L with
      | zero => omega
      | succ L => rw [List.replicate_succ, List.head?_cons]; decide
    have hne : List.replicate L (55 : UInt8) ≠ [] := fun e => by have := congrArg List.length e; rw [List.length_replicate, List.length_nil] at this; omega
    have hpg := parse_good hne (.inr hh) hall
    rw [List.length_replicate] at hpg
    have hsl : (sevens L).data.toList = List.replicate L 55 := by simp [sevens]
    rw [hsl] at HPL
    have HTD := hid (dec_valT L (List.replicate L 55) (by simp) hne hall (.inr hh))
    have HVL := hid (parseVal_lt (l := List.replicate L 55) (L := L) (by rw [List.length_replicate]; exact Nat.le_refl _))
    clear hn her ht hl hall hh hne hsl
    go_enter Tryd.func4, Tryd.ntmps4
    go_upto_region 6 with (first
      | (go_at_call 11; refine HA.out.mono ?_; clear HA; rintro e W1 ⟨rfl, hb1⟩; replace hK := hK.step hb1; clear hb1)
      | (go_at_call 14; refine (HP.out _).mono ?_; clear HP; rintro e Wx ⟨x, rfl, hx, hw⟩; obtain ⟨p1, c1, rfl, _⟩ := hx.dig; replace hK := (hK.step hw).add (F := fun w => NatV w (.agg #[.slice p1 (digs B32 n).length c1]) n) fun w' h => hx.below h; clear hx hw))
    obtain ⟨V1, hVV, hKV⟩ : ∃ VV, VV = Wx.alloc (.cells #[.slice p1 (digs B32 n).length c1] 26) ∧ KS w _ VV := ⟨_, rfl, hK.box _⟩
    rw [← hVV]
    clear hVV hK
    have hK := hKV
    clear hKV
    generalize Wx.heap.size = R1 at hK ⊢
    go_upto_region 7 with (go_at_call 19; refine (HR.out _).mono ?_; clear HR; rintro e V2 ⟨y, rfl, hx, hw⟩; replace hK := (hK.step hw).add (F := fun w => RefV w y n) fun w' h => hx.below h; clear hx hw)
    have kA := hK.get (F := Has 0 R1 (.cells #[.slice p1 (digs B32 n).length c1] 26)) (by repeat (first | exact List.mem_cons_self .. | apply List.mem_cons_of_mem))
    have d0 := kA.cell
    have b0 := kA.lt
    have HIS := hid (is_yes _ _ n n V2 (hK.get (F := fun w => NatV w (.agg #[.slice p1 (digs B32 n).length c1]) n) (by repeat (first | exact List.mem_cons_self .. | apply List.mem_cons_of_mem))) (hK.get (F := fun w => RefV w y n) (by repeat (first | exact List.mem_cons_self .. | apply List.mem_cons_of_mem))) (hK.get (F := fun w => Tab w) (by repeat (first | exact List.mem_cons_self .. | apply List.mem_cons_of_mem))) HL.out rfl)
    go_upto_region 9 with (go_at_call 16; refine HIS.out.mono ?_; clear HIS; rintro e V3 ⟨rfl, hw⟩; replace hK := hK.step hw; clear hw)
    clear d0 b0 kA
    go_upto_region 10 with (at_make; go_loud (refine wpList_make_full _ rfl _ _ _ rfl V3.heap.size 5 i0 _ 1 Tryd.underlying42 hi hz0 hz1 _ _ _ _ L rfl rfl (by simp) (by simp) (by rw [hz2]; omega) (by unfold maxLen; omega) (Nat.le_refl _) ?_; intro w2 hown hgr; have hb2 : Below V3.heap.size V3 w2 := (Below.refl _ V3).grown hgr (Nat.le_refl _) (by simp); have hA := arb_made hown; clear hown hgr))
    clear hL
    go_wp2_with fail
    go_loopw [10] (fun iv wr => ∃ k : Nat, k ≤ L ∧ iv = .int .i64 (k : Int) ∧ ArrB wr V3.heap.size (List.replicate k 55 ++ List.replicate (L - k) 0) ∧ Below V3.heap.size V3 wr) (fun iv _ => L - (intOf iv).toNat)
    case atStart => exact ⟨0, Nat.zero_le _, rfl, by simpa using hA, hb2⟩
    case round =>
      clear hA hb2
      obtain ⟨k, hk, rfl, harr, hold⟩ := hrel
      generalize wr = W5 at harr hold ⊢
      by_cases hlt : k < L
      · have hst := harr.store k 55
        rw [fill_step hlt] at hst
        have c0 := harr.cell k (by simp; omega)
        have hfr := harr.free
        have hDl := harr.lt
        go_wp2
        go_roundw
        case rel => exact ⟨k + 1, by omega, by go_num, hst, hold.setCell (p := ⟨V3.heap.size, k, none⟩) (Nat.le_refl _) _⟩
        case measure => simp [intOf]; omega
      · obtain rfl : k = L := by omega
        rw [Nat.sub_self, List.replicate_zero, List.append_nil] at harr
        have hcv := conv_sevens W5 V3.heap.size k harr
        replace hK := (hK.step hold).add (F := fun w => ArrB w V3.heap.size (List.replicate k 55)) fun w' h => harr.below h
        obtain ⟨T, hT⟩ : ∃ T, sevens k = T := ⟨_, rfl⟩
        rw [hT] at hcv HPL
        have HTT := hid hT
        obtain ⟨m, hm⟩ : ∃ m, parseVal (List.replicate k 55) = m := ⟨_, rfl⟩
        have HM := hid hm
        rw [hm] at HPL HVL
        generalize V3.heap.size = D at hK hcv harr ⊢
        clear hT hold
        by_cases hbig : 1000 < k
        · rw [if_pos hbig] at hpg
          have hm0 : m = 0 := by rw [← hm]; exact parseVal_err (by rw [hpg]; decide)
          rw [hpg, hm0] at HPL
          have hbi : (1000 : Int) < (k : Int) := by omega
          clear hpg hbig hm hm0
          go_upto_region 15 with (go_at_call 14; refine (HPL.out _).mono ?_; clear HPL; rintro e Wy ⟨x, rfl, hx, hw⟩; obtain ⟨p2, c2, rfl, _⟩ := hx.dig; replace hK := (hK.step hw).add (F := fun w => NatV w (.agg #[.slice p2 (digs B32 0).length c2]) 0) fun w' h => hx.below h; clear hx hw)
          obtain ⟨V6, hVV, hKV⟩ : ∃ VV, VV = Wy.alloc (.cells #[.slice p2 (digs B32 0).length c2] 26) ∧ KS w _ VV := ⟨_, rfl, hK.box _⟩
          rw [← hVV]
          clear hVV hK hcv harr
          have hK := hKV
          clear hKV
          generalize Wy.heap.size = R6 at hK ⊢
          have kA := hK.get (F := Has 0 R6 (.cells #[.slice p2 (digs B32 0).length c2] 26)) (by repeat (first | exact List.mem_cons_self .. | apply List.mem_cons_of_mem))
          have d0 := kA.cell
          have b0 := kA.lt
          have HZ := hid (isZero_any _ 0 V6 (hK.get (F := fun w => NatV w (.agg #[.slice p2 (digs B32 0).length c2]) 0) (by repeat (first | exact List.mem_cons_self .. | apply List.mem_cons_of_mem))))
          go_wp2_with (go_at_call 18; refine HZ.out.mono ?_; clear HZ; rintro e V7 ⟨rfl, hw⟩; replace hK := hK.step hw)
          go_ret
          exact ⟨rfl, hK.old⟩
        · rw [if_neg hbig] at hpg
          have hmv : m = valT (List.replicate k 55) := by rw [← hm]; unfold parseVal; rw [if_pos hpg]
          have HTX := hid (fun (v : Value) (w1 : World) (hv : NatV w1 v m) (ht : Tab w1) => text_any v m w1 hv ht (by
            have h3 : m < B32 ^ k := Nat.lt_of_lt_of_le HVL.out (Nat.pow_le_pow_left (by decide) _)
            have := digs_len_le b32_2 _ _ h3
            omega))
          rw [hmv, HTD.out, show (⟨(List.replicate k (55 : UInt8)).toArray⟩ : ByteArray) = T from HTT.out, ← hmv] at HTX
          rw [hpg] at HPL
          have hbi : ¬ (1000 : Int) < (k : Int) := by omega
          clear hpg hbig hm hmv
          go_upto_region 15 with (go_at_call 14; refine (HPL.out _).mono ?_; clear HPL; rintro e Wy ⟨x, rfl, hx, hw⟩; obtain ⟨p2, c2, rfl, _⟩ := hx.dig; replace hK := (hK.step hw).add (F := fun w => NatV w (.agg #[.slice p2 (digs B32 m).length c2]) m) fun w' h => hx.below h; clear hx hw)
          obtain ⟨V6, hVV, hKV⟩ : ∃ VV, VV = Wy.alloc (.cells #[.slice p2 (digs B32 m).length c2] 26) ∧ KS w _ VV := ⟨_, rfl, hK.box _⟩
          rw [← hVV]
          clear hVV hK hcv harr
          have hK := hKV
          clear hKV
          generalize Wy.heap.size = R6 at hK ⊢
          have kA := hK.get (F := Has 0 R6 (.cells #[.slice p2 (digs B32 m).length c2] 26)) (by repeat (first | exact List.mem_cons_self .. | apply List.mem_cons_of_mem))
          have d0 := kA.cell
          have b0 := kA.lt
          have HCV := hid (fun (w' : World) (hb : Below V6.heap.size V6 w') => conv_sevens w' D k ((hK.get (F := fun w => ArrB w D (List.replicate k 55)) (by repeat (first | exact List.mem_cons_self .. | apply List.mem_cons_of_mem))).below hb))
          rw [HTT.out] at HCV
          go_upto_region 17 with (fail)
          refine wp_region_float (V6) _ [0, 0, 0, 0, 1, 0, 0, 0, 0, 0] (by kernel_rfl) (by kernel_rfl) (by kernel_rfl) (by kernel_rfl) (KS.drew hK.re) ?_
          apply lxF0 (wants0 rfl); (· intro w' h0; have hw' := h0.old; have hcc := cellsBelow hw'; have hcv := HCV.out w' hw'; go_simp; (try go_bits); exact ⟨rfl, rfl⟩); simp only [Act.put, List.setIfInBounds_toArray, List.set_cons_zero, List.set_cons_succ]
          apply lxF0 (wants0 rfl); (· intro w' h0; have hw' := h0.old; have hcc := cellsBelow hw'; have hcv := HCV.out w' hw'; go_simp; (try go_bits); exact ⟨rfl, rfl⟩); simp only [Act.put, List.setIfInBounds_toArray, List.set_cons_zero, List.set_cons_succ]
          apply lxF0 (wants0 rfl); (· intro w' h0; have hw' := h0.old; have hcc := cellsBelow hw'; have hcv := HCV.out w' hw'; go_simp; (try go_bits); exact ⟨rfl, rfl⟩); simp only [Act.put, List.setIfInBounds_toArray, List.set_cons_zero, List.set_cons_succ]
          first | (apply lxN (j := 2) (d := 68) (b := true) rfl rfl rfl rfl; simp only [Act.put, List.setIfInBounds_toArray, List.set_cons_zero, List.set_cons_succ]) | (apply lxN' (j := 2) (d := 68) (b := true) rfl rfl rfl; simp only [Act.put, List.setIfInBounds_toArray, List.set_cons_zero, List.set_cons_succ]) | (apply lxF0 (wantsg (j := 2) (d := 68) (b := true) rfl rfl rfl rfl); (· intro w' h0; have hw' := h0.old; have hcc := cellsBelow hw'; have hcv := HCV.out w' hw'; go_simp; (try go_bits); exact ⟨rfl, rfl⟩); simp only [Act.put, List.setIfInBounds_toArray, List.set_cons_zero, List.set_cons_succ])
          apply lxH0 (wantsg (j := 2) (d := 68) (b := true) rfl rfl rfl rfl)
          · intro w' h0 hK; go_simp; (try go_bits); refine (HTX.out _ w' (hK.get (F := fun w => NatV w _ m) (by repeat (first | exact List.mem_cons_self .. | apply List.mem_cons_of_mem))) (hK.get (F := fun w => Tab w) (by repeat (first | exact List.mem_cons_self .. | apply List.mem_cons_of_mem)))).mono ?_; rintro e w5 ⟨rfl, hb⟩; exact ⟨_, rfl, rfl, hb⟩
          simp only [Act.put, List.setIfInBounds_toArray, List.set_cons_zero, List.set_cons_succ]
          first | (apply lxN (j := 2) (d := 68) (b := true) rfl rfl rfl rfl; simp only [Act.put, List.setIfInBounds_toArray, List.set_cons_zero, List.set_cons_succ]) | (apply lxN' (j := 2) (d := 68) (b := true) rfl rfl rfl; simp only [Act.put, List.setIfInBounds_toArray, List.set_cons_zero, List.set_cons_succ]) | (apply lxF0 (wantsg (j := 2) (d := 68) (b := true) rfl rfl rfl rfl); (· intro w' h0; have hw' := h0.old; have hcc := cellsBelow hw'; have hcv := HCV.out w' hw'; go_simp; (try go_bits); exact ⟨rfl, rfl⟩); simp only [Act.put, List.setIfInBounds_toArray, List.set_cons_zero, List.set_cons_succ])
          first | (apply lxN (j := 2) (d := 68) (b := true) rfl rfl rfl rfl; simp only [Act.put, List.setIfInBounds_toArray, List.set_cons_zero, List.set_cons_succ]) | (apply lxN' (j := 2) (d := 68) (b := true) rfl rfl rfl; simp only [Act.put, List.setIfInBounds_toArray, List.set_cons_zero, List.set_cons_succ]) | (apply lxF0 (wantsg (j := 2) (d := 68) (b := true) rfl rfl rfl rfl); (· intro w' h0; have hw' := h0.old; have hcc := cellsBelow hw'; have hcv := HCV.out w' hw'; go_simp; (try go_bits); exact ⟨rfl, rfl⟩); simp only [Act.put, List.setIfInBounds_toArray, List.set_cons_zero, List.set_cons_succ])
          first | (apply lxN (j := 2) (d := 68) (b := true) rfl rfl rfl rfl; simp only [Act.put, List.setIfInBounds_toArray, List.set_cons_zero, List.set_cons_succ]) | (apply lxN' (j := 2) (d := 68) (b := true) rfl rfl rfl; simp only [Act.put, List.setIfInBounds_toArray, List.set_cons_zero, List.set_cons_succ]) | (apply lxF0 (wantsg (j := 2) (d := 68) (b := true) rfl rfl rfl rfl); (· intro w' h0; have hw' := h0.old; have hcc := cellsBelow hw'; have hcv := HCV.out w' hw'; go_simp; (try go_bits); exact ⟨rfl, rfl⟩); simp only [Act.put, List.setIfInBounds_toArray, List.set_cons_zero, List.set_cons_succ])
          apply lxF0 (wants0 rfl); (· intro w' h0; have hw' := h0.old; have hcc := cellsBelow hw'; have hcv := HCV.out w' hw'; go_simp; (try go_bits); exact ⟨rfl, rfl⟩); simp only [Act.put, List.setIfInBounds_toArray, List.set_cons_zero, List.set_cons_succ]
          apply lxF0 (wants0 rfl); (· intro w' h0; have hw' := h0.old; have hcc := cellsBelow hw'; have hcv := HCV.out w' hw'; go_simp; (try go_bits); exact ⟨rfl, rfl⟩); simp only [Act.put, List.setIfInBounds_toArray, List.set_cons_zero, List.set_cons_succ]
          refine lxEnd (fun W9 hK9 => ?_)
          go_wp2
          go_ret
          exact ⟨rfl, hK.old.trans (hK9.old.mono hK.old.size)⟩
  · have hsz : (100 : Int) < (s.size : Int) := by omega
    go_enter Tryd.func4, Tryd.ntmps4
    go_wp2_with (go_at_call 11; refine HA.out.mono ?_; clear HA; rintro e W1 ⟨rfl, hb1⟩)
    go_ret
    exact ⟨rfl, hb1⟩

end Go.Proofs.YtepljhpamconbaaDoor
