/- Text. -/
import Derived.Test.YtepljhpamconbaaDoorNatI
namespace Go.Proofs.YtepljhpamconbaaDoor
open Go.RowKit
open Go.Lib (decDigits)

theorem infoS : (Tryd.prog.info? 9).map (fun i => (i.zero, i.size, i.bytes)) = some (some (.string ⟨#[]⟩), 1, 16) := by kernel_rfl
theorem one_str (s : ByteArray) : ∀ u ∈ [Value.string s], u.oneCell' = true := by
  intro u hu; simp only [List.mem_cons, List.not_mem_nil, or_false] at hu; rw [hu]; rfl

theorem row_slice {W : World} {base n : Nat} {e : TypeId} {v : Value} {xs : List Value} (h : W.ownsRow base e 1 v n xs) : ∃ p c, v = .slice p n c := by
  rcases h.2 with ⟨rfl, h0⟩ | ⟨g, cap, cur, rfl, _⟩
  · exact ⟨none, 0, by rw [h0]⟩
  · exact ⟨_, _, rfl⟩
theorem repeat48_size (k : Nat) : (⟨(Lib.repeatL [48] k).toArray⟩ : ByteArray).size = k := by
  show (Lib.repeatL [48] k).toArray.size = k
  rw [List.size_toArray, repeat_zero, List.length_replicate]
theorem take_rev {α : Type} {l : List α} {k : Nat} (h : k < l.length) : l.reverse.take (k + 1) = l.reverse.take k ++ [l[l.length - 1 - k]] := by
  rw [List.take_succ_eq_append_getElem (by simpa using h), List.getElem_reverse]
theorem row_kept_low {w w' : World} {base n : Nat} {e : TypeId} {v : Value} {xs : List Value} (h : w.ownsRow base e 1 v n xs) (hb : Below w.heap.size w w') : w'.ownsRow base e 1 v n xs := row_kept_none h (grown_of_below hb)

set_option maxRecDepth 100000 in
set_option maxHeartbeats 4000000 in
theorem text_any (v : Value) (n : Nat) (w : World) (hv : NatV w v n) (ht : Tab w) (hl : (digs B32 n).length ≤ 100000) :
    Calls Tryd.prog 15 #[v] w fun e w' => e = .returned (.string ⟨(decDigits n).toArray⟩) ∧ Below w.heap.size w w' := by
  obtain ⟨i0, hi, hz0, hz1, hz2⟩ := info_parts infoS
  have HB := hid (show n < B32 ^ (digs B32 n).length by have := val_lt b32_2 (digs_lt b32_2 n); rwa [val_digs b32_2] at this)
  by_cases h0 : n = 0
  · subst h0
    have HZ := hid (fun w1 (hb : Below w.heap.size w w1) => isZero_any v 0 w1 (hv.below hb))
    obtain ⟨P, c, rfl, hp⟩ := hv.digp
    rw [digs_zero, List.length_nil] at HZ ⊢
    rw [dec_small (by omega)]
    clear hp hv HB hl
    go_enter Tryd.func15, Tryd.ntmps15
    go_upto_region 1 with (fail)
    obtain ⟨W1, hW1, hsz, kA, hWb⟩ := box1_head (.slice P 0 c) 26 w
    rw [← hW1]
    have b1 : w.heap.size < W1.heap.size := by omega
    clear hW1 hsz
    have a0 := cell_box1 kA
    have HZ1 := hid (HZ.out W1 hWb)
    clear HZ
    go_wp2_with (go_at_call 18; refine HZ1.out.mono ?_; clear HZ1; rintro e w2 ⟨rfl, hw2⟩)
    go_ret
    exact ⟨rfl, hWb.trans (hw2.mono (by omega))⟩
  · have HZ := hid (fun w1 (hb : Below w.heap.size w w1) => isZero_any v n w1 (hv.below hb))
    obtain ⟨P, c, rfl, hp⟩ := hv.digp
    have HV := hid hv
    rw [show (n == 0) = false by simpa using h0] at HZ
    have H0 := hid h0
    clear hp hv h0
    go_enter Tryd.func15, Tryd.ntmps15
    go_upto_region 1 with (fail)
    obtain ⟨W1, hW1, hsz, kA, hWb⟩ := box1_head (.slice P (digs B32 n).length c) 26 w
    rw [← hW1]
    have b1 : w.heap.size < W1.heap.size := by omega
    clear hW1 hsz
    have a0 := cell_box1 kA
    have HZ1 := hid (HZ.out W1 hWb)
    clear HZ
    go_upto_region 4 with (go_at_call 18; refine HZ1.out.mono ?_; clear HZ1; rintro e w2 ⟨rfl, hw2⟩)
    have hat0 : TextAt w n (.slice none 0 0) [] w2 := ⟨⟨P, c, (hw2.block _ b1).trans kA, HV.out.below (hWb.trans (hw2.mono hWb.size))⟩, ⟨rfl, .inl ⟨rfl, rfl⟩⟩, fun _ => rfl, hWb.trans (hw2.mono hWb.size), Nat.le_trans b1 hw2.size⟩
    have HG0 := hid (show groups n 0 n [] from ⟨by simp, by rw [if_neg H0.out]; simp [flat]⟩)
    clear a0 hWb kA hw2 HV
    go_loopw [3] (fun v wr => ∃ (m : Nat) (ps : List ByteArray), TextAt w m v ps wr ∧ RowKit.Hid (groups n ps.length m ps) ∧ ps.length ≤ 2 * (digs B32 n).length) (fun v _ => 2 * (digs B32 n).length - sliceLen v)
    case atStart => exact ⟨n, [], hat0, HG0, Nat.zero_le _⟩
    case round =>
      clear hat0 HG0
      obtain ⟨m, ps, hat, HG, hpl2⟩ := hrel
      obtain ⟨p, cp, hbox, hnat⟩ := hat.box
      have c0 := cell_box1 hbox
      by_cases hm : m = 0
      · subst hm
        obtain ⟨hgm, hgt⟩ := HG.out
        rw [if_pos rfl, List.nil_append] at hgt
        have HT := hid hgt
        have htl : (flat ps.reverse).length ≤ 18 * (digs B32 n).length + 1 := by rw [← hgt]; exact dec_len HB.out
        have hpl : ps.length ≤ 1000000 := by omega
        clear hgm hgt
        go_upto_region 11 with (go_at_call 18; refine (isZero_any _ _ _ hnat).mono ?_; rintro e w2 ⟨rfl, hw2⟩)
        have hat2 := hat.below hw2
        clear hat hw2 hbox hnat c0 HG
        obtain ⟨W2, hW2, hB2, hb2, hs2⟩ : ∃ W2, W2 = w2.alloc (.cells #[.pointer none, .slice none 0 0] 76) ∧ Lib.IsBuilder 76 5 w2.heap.size w2.heap.size (Lib.byteCells []) W2 ∧ Below w2.heap.size w2 W2 ∧ w2.heap.size < W2.heap.size :=
          ⟨_, rfl, builder_new w2, (Below.refl _ w2).alloc (Nat.le_refl _) _, by simp⟩
        have hold2 := hat2.old
        have hsz2 := hat2.sz
        have hrow2 := hat2.row
        obtain ⟨pp, cpp, rfl⟩ := row_slice hrow2
        go_upto_region 12 with (fail)
        rw [← hW2]
        clear hW2 hat2
        go_wp2
        go_loopw [36] (fun i wr => ∃ k : Nat, k ≤ ps.length ∧ i = .int .i64 k ∧ Lib.IsBuilder 76 5 w2.heap.size w2.heap.size (Lib.byteCells (flat (ps.reverse.take k))) wr ∧ Below w2.heap.size w2 wr) (fun i _ => ps.length - (intOf i).toNat)
        case atStart => exact ⟨0, Nat.zero_le _, rfl, by simpa [flat] using hB2, hb2⟩
        case round =>
          obtain ⟨k, hk, rfl, hBk, hbk⟩ := hrel
          clear hB2 hb2
          have hrk := row_kept_low hrow2 hbk
          by_cases hlt : k < ps.length
          · have hj : ps.length - 1 - k < ps.length := by omega
            obtain ⟨gp, cg, e0, hgb, hcell⟩ := row1_cell hrk (by simp) (k := ps.length - 1 - k) (by simpa using hj)
            injection e0 with e1 e2 e3
            subst e3
            subst e1
            have ei : (ps.length : Int) - 1 - (k : Int) = ((ps.length - 1 - k : Nat) : Int) := by omega
            have hft := flat_take ps.reverse (k + 1)
            rw [take_rev hlt, flat_append, flat_one] at hft
            have HE := hid (show flat (ps.reverse.take k) ++ ps[ps.length - 1 - k].data.toList = flat (ps.reverse.take (k + 1)) by rw [take_rev hlt, flat_append, flat_one])
            rw [List.getElem_map] at hcell
            obtain ⟨sk, hsk⟩ : ∃ sk, ps[ps.length - 1 - k] = sk := ⟨_, rfl⟩
            rw [hsk] at hft HE hcell
            have hlw : (flat (ps.reverse.take k)).length + sk.size ≤ 140737488355328 := by
              rw [List.length_append] at hft
              have e : sk.data.toList.length = sk.size := by rw [Array.length_toList]; rfl
              omega
            have HW := hid (write_any w2.heap.size _ sk wr hBk hlw)
            rw [HE.out] at HW
            have q0 : (ps.length : Int) - 1 - (k : Int) < (ps.length : Int) := by omega
            clear hft hlw hsk
            go_wp2_with (go_at_call 45; refine HW.out.mono ?_; clear HW; rintro e w5 ⟨rr, rfl, hB5, hb5⟩)
            go_roundw
            case rel => exact ⟨k + 1, by omega, by go_num, hB5, hbk.trans hb5⟩
            case measure => simp [intOf]; omega
          · obtain rfl : k = ps.length := by omega
            rw [List.take_of_length_le (by simp), ← HT.out] at hBk
            have HS := hid (Tryd.Builder_String_any w2.heap.size w2.heap.size _ wr hBk hbk.size)
            go_wp2_with (go_at_call 46; refine HS.out.mono ?_; clear HS; rintro e w5 ⟨rfl, hb5⟩)
            go_ret
            exact ⟨rfl, hold2.trans ((hbk.trans hb5).mono (by omega))⟩
      · have HM := hid (show (m == 0) = false by simpa using hm)
        have HK := hid (groups_bound HG.out hm HB.out)
        have HGS := hid (groups_step HG.out hm)
        have hsl := row_sliceLen hat.row
        have hlm : (digs B32 m).length ≤ 1000000 := Nat.le_trans (digs_mono (by rw [HG.out.1]; exact Nat.div_le_self _ _)) (by omega)
        have hr9 : m % base9 < base9 := Nat.mod_lt _ (by decide)
        have HD := fun w1 (h : NatV w1 (.agg #[.slice p (digs B32 m).length cp]) m) => divs_any _ m base9 w1 h hlm (by decide) (by decide)
        obtain ⟨r, hr⟩ : ∃ r, m % base9 = r := ⟨_, rfl⟩
        rw [hr] at HD HGS hr9
        have HRP := hid (pad_string r hr9)
        have hln := (pad_eq 9 r (by omega) hr9).1
        have hri : (r : Int) < 1000000000 := by have : base9 = 1000000000 := rfl; omega
        replace HD := hid HD
        have HI := hid (fun w1 ht => itoa_any r w1 (by omega) ht)
        have HRR := hid (fun w1 => repeat_any (9 - (decDigits r).length) w1 (by omega))
        obtain ⟨sr, hsr⟩ : ∃ sr : ByteArray, (⟨(decDigits r).toArray⟩ : ByteArray) = sr := ⟨_, rfl⟩
        have hsz : sr.size = (decDigits r).length := by rw [← hsr]; simp [ByteArray.size]
        rw [hsr] at HI HRP
        rw [← hsz] at HRR HRP hln
        have hcnt : ((9 - sr.size : Nat) : Int) = 9 - (sr.size : Int) := by omega
        rw [hcnt] at HRR
        obtain ⟨zr, hzr⟩ : ∃ zr : ByteArray, (⟨(Lib.repeatL [48] (9 - sr.size)).toArray⟩ : ByteArray) = zr := ⟨_, rfl⟩
        have hzs : zr.size = 9 - sr.size := by rw [← hzr, repeat48_size]
        rw [hzr] at HRR HRP
        have HSR := hid hsr
        have hzs2 : zr.size + sr.size ≤ 9223372036854775807 := by omega
        have hzs3 : zr.size ≤ 9 := by omega
        clear hm hr hcnt hr9 hsz hsr hzr hzs
        go_upto_region 6 with (go_at_call 18; refine (isZero_any _ _ _ hnat).mono ?_; rw [HM.out]; rintro e w2 ⟨rfl, hw2⟩)
        replace hnat := hnat.below hw2
        replace hat := hat.below hw2
        replace hbox := (hw2.block _ (Array.getElem?_eq_some_iff.1 hbox).1).trans hbox
        replace c0 := cell_box1 hbox
        clear hw2
        go_upto_region 7 with (go_at_call 42; refine (HD.out _ hnat).mono ?_; clear HD; rintro e w3 ⟨x, rfl, hx, hw3⟩; obtain ⟨q, cq, rfl, _⟩ := hx.dig; have hat3 := hat.below hw3; obtain ⟨_, _, hb3, _⟩ := hat3.box; have f3 := free_box1 hb3; have c3 := cell_box1 hb3)
        replace hat3 := hat3.store hx
        obtain ⟨W3, hW3⟩ : ∃ W3, W3 = w3.setCell ⟨w.heap.size, 0, none⟩ (.slice q (digs B32 (m / base9)).length cq) := ⟨_, rfl⟩
        rw [← hW3] at hat3 ⊢
        clear hW3 hat hnat hbox hb3 hx hw3 f3 c3 c0
        have htab3 := ht.below (hat3.old.mono (Nat.le_refl _))
        go_upto_region 8 with (go_at_call 43; refine (HI.out _ htab3).mono ?_; clear HI; rintro e w4 ⟨rfl, hw4⟩)
        have hat4 := hat3.below hw4
        clear hat3 hw4 htab3
        obtain ⟨p4, c4, hbox4, hnat4⟩ := hat4.box
        have cc4 := cell_box1 hbox4
        by_cases hz : m / base9 = 0
        · rw [if_pos hz] at HGS
          rw [hz] at hbox4 hnat4 hat4 HGS cc4
          have HG' := hid (HGS.out _ rfl)
          rw [HSR.out] at HG'
          clear HGS hz
          go_upto_region 10 with (go_at_call 18; refine (isZero_any _ _ _ hnat4).mono ?_; rintro e w5 ⟨rfl, hw5⟩)
          have hat5 := hat4.below hw5
          have hkk := HK.out
          go_wp2_with (at_builtin; refine wpList_append_own _ rfl _ _ 68 rfl (w.heap.size + 1) 9 i0 _ 1 16 Tryd.underlying68 hi hz0 hz1 hz2 rfl (by decide) _ _ _ rfl (hat5.row.alloc _) ⟨w5.heap.size, 0, none⟩ 1 1 [.string sr] rfl rfl (cells1_new w5 _ _) (one_str _) (by simp [maxLen]; omega) (by omega) (by have := hat5.sz; simp; omega) ?_; intro v' w7 hown' hgrow _; have hat7 := hat5.push hown' hgrow)
          have hsl7 := row_sliceLen hat7.row
          rw [List.length_append] at hsl7
          go_roundw
          case rel => exact ⟨_, _, hat7, hid (by rw [List.length_append]; exact HG'.out), by rw [List.length_append, List.length_singleton]; exact HK.out⟩
          case measure =>
            have := HK.out
            show 2 * _ - sliceLen v' < 2 * _ - sliceLen _
            rw [hsl, hsl7]
            simp only [List.length_singleton]
            omega
        · have hzb : (m / base9 == 0) = false := by simpa using hz
          rw [if_neg hz] at HGS
          have HG' := hid (HGS.out _ rfl)
          rw [← HRP.out] at HG'
          clear HGS hz
          go_upto_region 9 with (go_at_call 18; refine (isZero_any _ _ _ hnat4).mono ?_; rw [hzb]; rintro e w5 ⟨rfl, hw5⟩)
          have hat5 := hat4.below hw5
          clear hzb hbox4 hnat4 hat4 cc4
          go_upto_region 10 with (go_at_call 44; refine (HRR.out _).mono ?_; clear HRR; rintro e w6 ⟨rfl, hw6⟩)
          have hat6 := hat5.below hw6
          have hkk := HK.out
          go_wp2_with (at_builtin; refine wpList_append_own _ rfl _ _ 68 rfl (w.heap.size + 1) 9 i0 _ 1 16 Tryd.underlying68 hi hz0 hz1 hz2 rfl (by decide) _ _ _ rfl (hat6.row.alloc _) ⟨w6.heap.size, 0, none⟩ 1 1 [.string _] rfl rfl (cells1_new w6 _ _) (one_str _) (by simp [maxLen]; omega) (by omega) (by have := hat6.sz; simp; omega) ?_; intro v' w7 hown' hgrow _; have hat7 := hat6.push hown' hgrow)
          have hsl7 := row_sliceLen hat7.row
          rw [List.length_append] at hsl7
          go_roundw
          case rel => exact ⟨_, _, hat7, hid (by rw [List.length_append]; exact HG'.out), by rw [List.length_append, List.length_singleton]; exact HK.out⟩
          case measure =>
            have := HK.out
            show 2 * _ - sliceLen v' < 2 * _ - sliceLen _
            rw [hsl, hsl7]
            simp only [List.length_singleton]
            omega

end Go.Proofs.YtepljhpamconbaaDoor
