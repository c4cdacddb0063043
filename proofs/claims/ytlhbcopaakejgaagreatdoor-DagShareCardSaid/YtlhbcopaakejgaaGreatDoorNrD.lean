/- Greatest common divisors of naturals. -/

import Derived.Test.YtlhbcopaakejgaaGreatDoorMF
import Derived.Test.YtlhbcopaakejgaaGreatDoorSnQ
namespace Go.Proofs.YtlhbcopaakejgaaGreatDoor
open Go.RowKit
open Go.Lib (decDigits)
theorem u64_nm(n:Nat):∃z:Nat,∃b:Bool,RowKit.Hid (b=true→z=n∧n<18446744073709551616)∧RowKit.Hid (decide (n<18446744073709551616)=b)∧RowKit.Hid (u64V n=.tuple #[.int .u64 (z:Int),.bool b]):=by
  refine⟨if n<18446744073709551616 then n else 0,decide (n<18446744073709551616),hid fun h=>?_,hid rfl,hid ?_⟩
  · have h2:=of_decide_eq_true h;exact⟨if_pos h2,h2⟩
  · unfold u64V;split<;>rfl
theorem gcd_st{x y:Nat}(h:y≠0):Nat.gcd y (rem0 x y)=Nat.gcd x y:=by
  unfold rem0;rw[if_neg h,Nat.gcd_comm y, ←Nat.gcd_rec,Nat.gcd_comm]
theorem gcd_st2(x y:Nat):Nat.gcd y (x%y)=Nat.gcd x y:=by rw[Nat.gcd_comm y, ←Nat.gcd_rec,Nat.gcd_comm]
theorem rem0_len{x y L:Nat}(hx:(digs B32 x).length≤L)(hy:(digs B32 y).length≤L):(digs B32 (rem0 x y)).length≤L:=by
  unfold rem0
  split
  · first|exact hx|exact hy|(rw[digs_zero];exact Nat.zero_le _)
  · exact Nat.le_trans (digs_mono (Nat.le_of_lt (Nat.mod_lt _ (by omega)))) hy
set_option maxRecDepth 100000 in
theorem gcd_q(v0:Value)(v1:Value)(n:Nat)(m:Nat)(w:World)(h0:NatV w v0 n)(h1:NatV w v1 m)(hn:(digs B32 n).length≤100000)(hm:(digs B32 m).length≤100000):
    Calls Tryz.prog 80 #[v0,v1] w fun e w'=> ∃y0,e=.returned y0∧NatV w' y0 (Nat.gcd n m)∧Below w.heap.size w w':=by
  obtain⟨p_h0,l_h0,c_h0,rfl⟩:=h0.sl;obtain⟨p_h1,l_h1,c_h1,rfl⟩:=h1.sl;have hK:=SS.start w;refine Calls.hide (fun Q0 hQ0=>?_);go_enter Tryz.func80,Tryz.ntmps80;go_upto_region 0 with(fail);refine wp_region_T [3,3,3] hK ?_;clear hK;refine eA (.cells #[.slice p_h0 l_h0 c_h0] 39) (fun R1=>?_);refine eA (.cells #[.slice p_h1 l_h1 c_h1] 39) (fun R2=>?_);refine eA (.cells #[.slice none 0 0] 39) (fun R3=>?_);refine sxEnd (fun W4 hK=>?_);replace hK:=hK.fact (nF (.agg #[.slice p_h0 l_h0 c_h0]) n) (h0.below hK.old);replace hK:=hK.fact (nF (.agg #[.slice p_h1 l_h1 c_h1]) m) (h1.below hK.old);go_wp2_with fail;go_loopg [] (m) (fun gk0 wl=> ∃(x:Nat) (y:Nat) (pa:Option Addr) (la:Nat) (ca:Nat) (pb:Option Addr) (lb:Nat) (cb:Nat),RowKit.Hid (Nat.gcd x y=Nat.gcd n m)∧((digs B32 x).length≤100000)∧((digs B32 y).length≤100000)∧RowKit.Hid (gk0=y)∧SS w ([nF (.agg #[.slice pb lb cb]) y,nF (.agg #[.slice pa la ca]) x,bx R3 (.cells #[.slice none 0 0] 39),bx R2 (.cells #[.slice pb lb cb] 39),bx R1 (.cells #[.slice pa la ca] 39)]) wl)
  case atStart=>exact⟨n,m,p_h0,l_h0,c_h0,p_h1,l_h1,c_h1,hid rfl,hn,hm,hid rfl,hK⟩
  case round=>
   clear hK;obtain⟨x,y,pa,la,ca,pb,lb,cb,h_g,hx,hy,hgk5,hK⟩:=hrel;generalize wr=W6 at hK⊢;go_upto_region 1 with(fail);refine wp_region_T [1,1,0] hK ?_;clear hK;refine eL m3 ?_;obtain⟨b1,hb1⟩:∃z9:Bool,RowKit.Hid ((y==0)=z9):=⟨_,hid rfl⟩;refine eQ (v:=.bool b1) (fun w k=>isZero_any _ _ w (k.nf m0)) ?_ (hv:=by rw[hb1.out]);refine e0 ?_;refine sxEnd (fun W7 hK=>?_)
   cases b1
   · --
    go_upto_region 2 with(fail);refine wp_region_T [1,1,0,0,0,0,0] hK ?_;clear hK;refine eL m4 ?_;obtain⟨z1,b2,hz1,hb2,hb2e⟩:=u64_nm x;refine eQ (fun w k=>(by have q:=uint64_any _ _ w (k.nf m1);rw[hb2e.out]at q;exact q)) ?_
    iterate 5 refine e0 ?_
    refine sxEnd (fun W8 hK=>?_);go_upto_region 3 with(fail);refine wp_region_T [1,1,0,0,0,0,0] hK ?_;clear hK;refine eL m3 ?_;obtain⟨z2,b3,hz2,hb3,hb3e⟩:=u64_nm y;refine eQ (fun w k=>(by have q:=uint64_any _ _ w (k.nf m0);rw[hb3e.out]at q;exact q)) ?_
    iterate 5 refine e0 ?_
    refine sxEnd (fun W9 hK=>?_);go_upto_region 4 with(fail);refine wp_region_T [0,0,0,0] hK ?_;clear hK
    iterate 2 refine e0 ?_
    cases b2
    · --
     refine eN ?_;refine e0 ?_;refine sxEnd (fun W10 hK=>?_);go_upto_region 8 with(fail);refine wp_region_T [1,1,2,0,0,0,0,3,3,4,4,0] hK ?_;clear hK;refine eL m4 ?_;refine eL m3 ?_;refine eC (fun w k=>nat2_S (dm_any _ _ _ _ w (k.nf m1) (k.nf m0) (by omega) (by omega))) (fun x13=>?_);obtain⟨⟨p11,l11,c11⟩,⟨p12,l12,c12⟩⟩:=x13;dsimp only
     iterate 4 refine e0 ?_
     refine eA (.cells #[.slice none 0 0] 39) (fun R14=>?_);refine eA (.cells #[.slice none 0 0] 39) (fun R15=>?_);refine eP 1 0 [.slice p11 l11 c11] ?_;refine eP 0 0 [.slice p12 l12 c12] ?_;refine e0 ?_;refine sxEnd (fun W16 hK=>?_);go_upto_region 9 with(fail);refine wp_region_S _ [1,0,4,4] hK ?_ (sK2 (sK2 (sK2 (sK2 (sK2 (sK2 (sK2 (sC2 (sC2 sZ2)))))))));clear hK;refine eL m7 ?_;refine eL0 m0 ?_;refine eP 8 0 [.slice pb lb cb] ?_ (hs:=(sK2 (sK2 (sK2 (sK2 (sK2 (sK2 (sK2 (sC2 (sC2 sZ2))))))))));refine eP 7 0 [.slice p12 l12 c12] ?_ (hs:=(sK2 (sK2 (sK2 (sK2 (sK2 (sK2 (sK2 (sC2 (sC2 sZ2))))))))));refine sxEnd (fun W17 hK=>?_)
     (try go_wp2)
     go_roundg ((rem0 x y))
     case measure=>rw[hgk5.out];(have q:=hb1.out;simp at q;unfold rem0;rw[if_neg q];exact Nat.mod_lt _ (by omega))
     case rel=>exact⟨y,rem0 x y,pb,lb,cb,p12,l12,c12,hid ((gcd_st (by have q:=hb1.out;simpa using q)).trans h_g.out),hy,(rem0_len hx hy),hid rfl,(hK.subl (sC2 (sC2 (sC2 (sK2 (sK2 (sC2 (List.Sublist.refl _))))))))⟩
    · --
     iterate 2 refine e0 ?_
     refine sxEnd (fun W18 hK=>?_)
     cases b3
     · --
      go_upto_region 8 with(fail);refine wp_region_T [1,1,2,0,0,0,0,3,3,4,4,0] hK ?_;clear hK;refine eL m4 ?_;refine eL m3 ?_;refine eC (fun w k=>nat2_S (dm_any _ _ _ _ w (k.nf m1) (k.nf m0) (by omega) (by omega))) (fun x21=>?_);obtain⟨⟨p19,l19,c19⟩,⟨p20,l20,c20⟩⟩:=x21;dsimp only
      iterate 4 refine e0 ?_
      refine eA (.cells #[.slice none 0 0] 39) (fun R22=>?_);refine eA (.cells #[.slice none 0 0] 39) (fun R23=>?_);refine eP 1 0 [.slice p19 l19 c19] ?_;refine eP 0 0 [.slice p20 l20 c20] ?_;refine e0 ?_;refine sxEnd (fun W24 hK=>?_);go_upto_region 9 with(fail);refine wp_region_S _ [1,0,4,4] hK ?_ (sK2 (sK2 (sK2 (sK2 (sK2 (sK2 (sK2 (sC2 (sC2 sZ2)))))))));clear hK;refine eL m7 ?_;refine eL0 m0 ?_;refine eP 8 0 [.slice pb lb cb] ?_ (hs:=(sK2 (sK2 (sK2 (sK2 (sK2 (sK2 (sK2 (sC2 (sC2 sZ2))))))))));refine eP 7 0 [.slice p20 l20 c20] ?_ (hs:=(sK2 (sK2 (sK2 (sK2 (sK2 (sK2 (sK2 (sC2 (sC2 sZ2))))))))));refine sxEnd (fun W25 hK=>?_)
      (try go_wp2)
      go_roundg ((rem0 x y))
      case measure=>rw[hgk5.out];(have q:=hb1.out;simp at q;unfold rem0;rw[if_neg q];exact Nat.mod_lt _ (by omega))
      case rel=>exact⟨y,rem0 x y,pb,lb,cb,p20,l20,c20,hid ((gcd_st (by have q:=hb1.out;simpa using q)).trans h_g.out),hy,(rem0_len hx hy),hid rfl,(hK.subl (sC2 (sC2 (sC2 (sK2 (sK2 (sC2 (List.Sublist.refl _))))))))⟩
     · --
      obtain⟨e9,hlx⟩:=hz1.out rfl;replace e9:=e9.symm;subst e9;obtain⟨e9,hly⟩:=hz2.out rfl;replace e9:=e9.symm;subst e9;go_wp2_with fail;go_loopw [5,7] (fun s5 s7 wl=> ∃(i:Nat) (j:Nat),s5=.int .u64 (i:Int)∧s7=.int .u64 (j:Int)∧(i<18446744073709551616)∧(j<18446744073709551616)∧RowKit.Hid (Nat.gcd i j=Nat.gcd n m)∧SS w ([nF (.agg #[.slice pb lb cb]) y,nF (.agg #[.slice pa la ca]) x,bx R3 (.cells #[.slice none 0 0] 39),bx R2 (.cells #[.slice pb lb cb] 39),bx R1 (.cells #[.slice pa la ca] 39)]) wl) (fun s5 s7 _=>(intOf s7).toNat)
      case atStart=>exact⟨x,y,rfl,rfl,hlx,hly,hid h_g.out,hK⟩
      case round=>
       clear hK;obtain⟨i,j,rfl,rfl,hi,hj,h_i,hK⟩:=hrel;generalize wr=W26 at hK⊢;go_upto_region 5 with(fail);refine wp_region_T [0,0] hK ?_;clear hK;refine e0 ?_;refine eB (((j:Int)) !=0) (fun b4 hb4=>?_);refine sxEnd (fun W27 hK=>?_)
       cases b4
       · --
        go_upto_region 7 with(fail);refine wp_region_T [0,2,4] hK ?_;clear hK;refine e0 ?_;refine eC (fun w k=>nat_S (of_any i w (by omega))) (fun x29=>?_);obtain⟨p28,l28,c28⟩:=x29;dsimp only;refine eP 3 0 [.slice p28 l28 c28] ?_;refine sxEnd (fun W30 hK=>?_);have c90:=(hK.box m3).at 0 rfl;go_wp2;exact bodyPost_ret (v:=.agg #[.slice p28 l28 c28]) (by simp[results,Tryz.results80,go_sem,c90]) rfl (by obtain rfl:=hQ0.out;exact⟨_,rfl,((congrArg (NatV _ _) (by have q:=hb4.out;simp at q;subst q;rw[←h_i.out,Nat.gcd_zero_right])).mp (hK.nf m0)),hK.old⟩)
       · --
        go_upto_region 6 with(fail);refine wp_region_S _ [0,0,0,0,0,0] hK ?_ (List.Sublist.refl _);clear hK
        iterate 3 refine e0 ?_
        refine eV (.int .u64 ((i%j:Nat):Int)) (fun w'=>by go_simp;(try go_bits);have q:=hb4.out;simp at q;first|exact⟨rfl,rfl⟩|(rw[if_neg (by omega)];exact⟨rfl,rfl⟩)|(simp[q];try omega)) ?_
        iterate 2 refine e0 ?_
        refine sxEnd (fun W31 hK=>?_)
        (try go_wp2)
        go_roundw
        case rel=>exact⟨j,i%j,(by first|rfl|go_num),(by first|rfl|go_num),hj,(Nat.lt_of_le_of_lt (Nat.mod_le _ _) hi),hid ((gcd_st2 i j).trans h_i.out),hK⟩
        case measure=>(have q9:i%j<j:=Nat.mod_lt _ (by have q:=hb4.out;simp at q;omega));show((i%j:Nat):Int).toNat<((j:Nat):Int).toNat;omega
   · --
    go_upto_region 10 with(fail);refine wp_region_T [1,4] hK ?_;clear hK;refine eL m4 ?_;refine eP 2 0 [.slice pa la ca] ?_;refine sxEnd (fun W32 hK=>?_);have c90:=(hK.box m2).at 0 rfl;go_wp2;exact bodyPost_ret (v:=.agg #[.slice pa la ca]) (by simp[results,Tryz.results80,go_sem,c90]) rfl (by obtain rfl:=hQ0.out;exact⟨_,rfl,((congrArg (NatV _ _) (by have q:=hb1.out;simp at q;subst q;rw[←h_g.out,Nat.gcd_zero_right])).mp (hK.nf m1)),hK.old⟩)
end Go.Proofs.YtlhbcopaakejgaaGreatDoor
