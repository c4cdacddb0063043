/- The reference: Cmp. The reference: Parse. The reference: Mul. The reference: Sub. The reference: Uint64, Bits. The reference: fits, DivMod, GCD. Limits of numbers, what their texts are, what a box leaves alone. -/

import Derived.Laws.Strings3
import Derived.Test.YtlhbcopaakejgaaGreatDoorMD
import Derived.Test.YtlhbcopaakejgaaGreatDoorME
namespace Go.Proofs.YtlhbcopaakejgaaGreatDoor
open Go.RowKit
theorem digs6_len_mono{n m:Nat}(h:(digs B6 n).length<(digs B6 m).length):n<m:=digs_len_mono b6_2 h
set_option maxRecDepth 100000 in
set_option maxHeartbeats 2000000 in
theorem rcmp_any(v u:Value)(n m:Nat)(w:World)(hv:RefV w v n)(hu:RefV w u m)(h1:(digs B6 n).length≤900000)(_h2:(digs B6 m).length≤900000):
    Calls Tryz.prog 66 #[v,u] w fun e w'=>e=.returned (.int .i64 (cmpN n m))∧Below w.heap.size w w':=by
  obtain⟨p,cp,rfl,hpg⟩:=GV.slice hv;obtain⟨q,cq,rfl,hqg⟩:=GV.slice hu;have HPG:=hid hpg;have HQG:=hid hqg
  by_cases hlt:(digs B6 n).length<(digs B6 m).length
  · have HE:=hid (cmpN_lt (digs6_len_mono hlt))
    clear hv hu hpg hqg HPG HQG;go_enter Tryz.func66,Tryz.ntmps66;go_wp2;go_ret;exact⟨by rw[HE.out];rfl,Below.refl _ _⟩
  · by_cases hgt:(digs B6 m).length<(digs B6 n).length
    · have HE:=hid (cmpN_gt (digs6_len_mono hgt))
      clear hv hu hpg hqg HPG HQG;go_enter Tryz.func66,Tryz.ntmps66;go_wp2;go_ret;exact⟨by rw[HE.out];rfl,Below.refl _ _⟩
    · have hl:(digs B6 n).length=(digs B6 m).length:=by omega
      have H1:=hid (digs_lt b6_2 n);have H2:=hid (digs_lt b6_2 m);have HN:=hid (val_digs b6_2 n);have HM:=hid (val_digs b6_2 m);obtain⟨xs,hxs⟩:∃xs,digs B6 n=xs:=⟨_,rfl⟩;obtain⟨ys,hys⟩:∃ys,digs B6 m=ys:=⟨_,rfl⟩;rw[hxs]at HPG H1 HN h1 hl⊢;rw[hys]at HQG H2 HM hl⊢;rw[←hl];have HL:=hid hl;clear hv hu hpg hqg hxs hys _h2 hlt hgt hl;go_enter Tryz.func66,Tryz.ntmps66;go_wp2_with fail;go_loopw [5] (fun i wr=> ∃k:Nat,k≤xs.length∧i=.int .i64 ((k:Int)-1)∧RowKit.Hid (xs.drop k=ys.drop k)∧Below w.heap.size w wr) (fun i _=>(intOf i+1).toNat)
      case atStart=>exact⟨xs.length,Nat.le_refl _,rfl,hid (by have:=HL.out;rw[List.drop_length,this,List.drop_length]),Below.refl _ _⟩
      case round=>
        obtain⟨k,hk,rfl,HD,hbw⟩:=hrel;generalize wr=W1 at hbw⊢
        by_cases hk0:k=0
        · subst hk0
          have HE:=hid (show cmpN n m=0 by have:=HD.out;simp only[List.drop_zero]at this;rw[←HN.out, ←HM.out,this];exact cmpN_eq _);go_wp2;go_ret;exact⟨by rw[HE.out];rfl,hbw⟩
        · obtain⟨j,rfl⟩:∃j,k=j+1:=⟨k-1,by omega⟩
          have hj:j<xs.length:=by omega
          have hj':j<ys.length:=by have:=HL.out;omega
          have ei:(((j+1:Nat):Int)-1)=(j:Int):=by omega
          rw[ei];clear ei;obtain⟨g,rfl,hg,_,_⟩:=HPG.out (fun e=>by subst e;simp at hj);obtain⟨g',rfl,hg',_,_⟩:=HQG.out (fun e=>by subst e;simp at hj');have g0:=(hg.below hbw).at0 j hj;have g1:=(hg'.below hbw).at0 j hj';unfold iCell at g0 g1;have gl:=Nat.lt_of_lt_of_le hg.lt hbw.size;have gl':=Nat.lt_of_lt_of_le hg'.lt hbw.size;have q0:0≤(j:Int):=by omega
          go_upto_region 8 with(fail);refine wp_region_staged (fun w'=>Below W1.heap.size W1 w') [0,0,0,1,0,0,0,1,0] (by kernel_rfl) (by kernel_rfl) (by kernel_rfl) (by exact(Below.refl _ _).drew) ?_
          rcases Nat.lt_trichotomy xs[j] ys[j]with hc|hc|hc
          · have HE:=hid (show cmpN n m= -1 by rw[←HN.out, ←HM.out];exact cmpN_lt (val_lt_at b6_2 H1.out hj hj' HL.out HD.out hc))
            have hlt:((xs[j]:Nat):Int)<((ys[j]:Nat):Int):=by omega
            clear hc;apply lexF rfl;(· intro _;go_simp;(try go_bits);exact⟨rfl,rfl⟩);simp only[Act.put,List.setIfInBounds_toArray,List.set_cons_zero,List.set_cons_succ];apply lexF rfl;(· intro _;go_simp;(try go_bits);exact⟨rfl,rfl⟩);simp only[Act.put,List.setIfInBounds_toArray,List.set_cons_zero,List.set_cons_succ];apply lexF rfl;(· intro _;go_simp;(try go_bits);exact⟨rfl,rfl⟩);simp only[Act.put,List.setIfInBounds_toArray,List.set_cons_zero,List.set_cons_succ];apply lexH rfl;(· intro w' hw';have hcc:=cellsBelow hw';go_simp;(try go_bits);exact⟨rfl,hw'⟩);simp only[Act.put,List.setIfInBounds_toArray,List.set_cons_zero,List.set_cons_succ];apply lexF rfl;(· intro _;go_simp;(try go_bits);exact⟨rfl,rfl⟩);simp only[Act.put,List.setIfInBounds_toArray,List.set_cons_zero,List.set_cons_succ];apply lexF rfl;(· intro _;go_simp;(try go_bits);exact⟨rfl,rfl⟩);simp only[Act.put,List.setIfInBounds_toArray,List.set_cons_zero,List.set_cons_succ];apply lexF rfl;(· intro _;go_simp;(try go_bits);exact⟨rfl,rfl⟩);simp only[Act.put,List.setIfInBounds_toArray,List.set_cons_zero,List.set_cons_succ];apply lexH rfl;(· intro w' hw';have hcc:=cellsBelow hw';go_simp;(try go_bits);exact⟨rfl,hw'⟩);simp only[Act.put,List.setIfInBounds_toArray,List.set_cons_zero,List.set_cons_succ];apply lexF rfl;(· intro _;go_simp;(try go_bits);exact⟨rfl,rfl⟩);simp only[Act.put,List.setIfInBounds_toArray,List.set_cons_zero,List.set_cons_succ];refine lexEnd (fun w3 hw3=>?_);go_wp2;go_ret;exact⟨by rw[HE.out];rfl,hbw.trans (hw3.mono hbw.size)⟩
          · have HE:=hid (drop_same hj hj' HD.out hc)
            rw[←hc]at g1;clear hc;apply lexF rfl;(· intro _;go_simp;(try go_bits);exact⟨rfl,rfl⟩);simp only[Act.put,List.setIfInBounds_toArray,List.set_cons_zero,List.set_cons_succ];apply lexF rfl;(· intro _;go_simp;(try go_bits);exact⟨rfl,rfl⟩);simp only[Act.put,List.setIfInBounds_toArray,List.set_cons_zero,List.set_cons_succ];apply lexF rfl;(· intro _;go_simp;(try go_bits);exact⟨rfl,rfl⟩);simp only[Act.put,List.setIfInBounds_toArray,List.set_cons_zero,List.set_cons_succ];apply lexH rfl;(· intro w' hw';have hcc:=cellsBelow hw';go_simp;(try go_bits);exact⟨rfl,hw'⟩);simp only[Act.put,List.setIfInBounds_toArray,List.set_cons_zero,List.set_cons_succ];apply lexF rfl;(· intro _;go_simp;(try go_bits);exact⟨rfl,rfl⟩);simp only[Act.put,List.setIfInBounds_toArray,List.set_cons_zero,List.set_cons_succ];apply lexF rfl;(· intro _;go_simp;(try go_bits);exact⟨rfl,rfl⟩);simp only[Act.put,List.setIfInBounds_toArray,List.set_cons_zero,List.set_cons_succ];apply lexF rfl;(· intro _;go_simp;(try go_bits);exact⟨rfl,rfl⟩);simp only[Act.put,List.setIfInBounds_toArray,List.set_cons_zero,List.set_cons_succ];apply lexH rfl;(· intro w' hw';have hcc:=cellsBelow hw';go_simp;(try go_bits);exact⟨rfl,hw'⟩);simp only[Act.put,List.setIfInBounds_toArray,List.set_cons_zero,List.set_cons_succ];apply lexF rfl;(· intro _;go_simp;(try go_bits);exact⟨rfl,rfl⟩);simp only[Act.put,List.setIfInBounds_toArray,List.set_cons_zero,List.set_cons_succ];refine lexEnd (fun w3 hw3=>?_);go_upto_region 10 with(fail);refine wp_region_staged (fun w'=>Below W1.heap.size W1 w') [0,0,0,1,0,0,0,1,0] (by kernel_rfl) (by kernel_rfl) (by kernel_rfl) (by exact hw3.drew) ?_;apply lexF rfl;(· intro _;go_simp;(try go_bits);exact⟨rfl,rfl⟩);simp only[Act.put,List.setIfInBounds_toArray,List.set_cons_zero,List.set_cons_succ];apply lexF rfl;(· intro _;go_simp;(try go_bits);exact⟨rfl,rfl⟩);simp only[Act.put,List.setIfInBounds_toArray,List.set_cons_zero,List.set_cons_succ];apply lexF rfl;(· intro _;go_simp;(try go_bits);exact⟨rfl,rfl⟩);simp only[Act.put,List.setIfInBounds_toArray,List.set_cons_zero,List.set_cons_succ]
            apply lexH rfl;(· intro w' hw';have hcc:=cellsBelow hw';go_simp;(try go_bits);exact⟨rfl,hw'⟩);simp only[Act.put,List.setIfInBounds_toArray,List.set_cons_zero,List.set_cons_succ];apply lexF rfl;(· intro _;go_simp;(try go_bits);exact⟨rfl,rfl⟩);simp only[Act.put,List.setIfInBounds_toArray,List.set_cons_zero,List.set_cons_succ];apply lexF rfl;(· intro _;go_simp;(try go_bits);exact⟨rfl,rfl⟩);simp only[Act.put,List.setIfInBounds_toArray,List.set_cons_zero,List.set_cons_succ];apply lexF rfl;(· intro _;go_simp;(try go_bits);exact⟨rfl,rfl⟩);simp only[Act.put,List.setIfInBounds_toArray,List.set_cons_zero,List.set_cons_succ];apply lexH rfl;(· intro w' hw';have hcc:=cellsBelow hw';go_simp;(try go_bits);exact⟨rfl,hw'⟩);simp only[Act.put,List.setIfInBounds_toArray,List.set_cons_zero,List.set_cons_succ];apply lexF rfl;(· intro _;go_simp;(try go_bits);exact⟨rfl,rfl⟩);simp only[Act.put,List.setIfInBounds_toArray,List.set_cons_zero,List.set_cons_succ];refine lexEnd (fun w4 hw4=>?_);go_wp2;go_roundw
            case rel=>exact⟨j,by omega,rfl,HE,hbw.trans (hw4.mono hbw.size)⟩
            case measure=>simp[intOf]
          · have HE:=hid (show cmpN n m=1 by rw[←HN.out, ←HM.out];exact cmpN_gt (val_lt_at b6_2 H2.out hj' hj HL.out.symm HD.out.symm hc))
            have hlt:((ys[j]:Nat):Int)<((xs[j]:Nat):Int):=by omega
            have hge:¬((xs[j]:Nat):Int)<((ys[j]:Nat):Int):=by omega
            clear hc;apply lexF rfl;(· intro _;go_simp;(try go_bits);exact⟨rfl,rfl⟩);simp only[Act.put,List.setIfInBounds_toArray,List.set_cons_zero,List.set_cons_succ];apply lexF rfl;(· intro _;go_simp;(try go_bits);exact⟨rfl,rfl⟩);simp only[Act.put,List.setIfInBounds_toArray,List.set_cons_zero,List.set_cons_succ];apply lexF rfl;(· intro _;go_simp;(try go_bits);exact⟨rfl,rfl⟩);simp only[Act.put,List.setIfInBounds_toArray,List.set_cons_zero,List.set_cons_succ];apply lexH rfl;(· intro w' hw';have hcc:=cellsBelow hw';go_simp;(try go_bits);exact⟨rfl,hw'⟩);simp only[Act.put,List.setIfInBounds_toArray,List.set_cons_zero,List.set_cons_succ];apply lexF rfl;(· intro _;go_simp;(try go_bits);exact⟨rfl,rfl⟩);simp only[Act.put,List.setIfInBounds_toArray,List.set_cons_zero,List.set_cons_succ];apply lexF rfl;(· intro _;go_simp;(try go_bits);exact⟨rfl,rfl⟩);simp only[Act.put,List.setIfInBounds_toArray,List.set_cons_zero,List.set_cons_succ];apply lexF rfl;(· intro _;go_simp;(try go_bits);exact⟨rfl,rfl⟩);simp only[Act.put,List.setIfInBounds_toArray,List.set_cons_zero,List.set_cons_succ];apply lexH rfl;(· intro w' hw';have hcc:=cellsBelow hw';go_simp;(try go_bits);exact⟨rfl,hw'⟩);simp only[Act.put,List.setIfInBounds_toArray,List.set_cons_zero,List.set_cons_succ];apply lexF rfl;(· intro _;go_simp;(try go_bits);exact⟨rfl,rfl⟩);simp only[Act.put,List.setIfInBounds_toArray,List.set_cons_zero,List.set_cons_succ];refine lexEnd (fun w3 hw3=>?_);go_upto_region 10 with(fail);refine wp_region_staged (fun w'=>Below W1.heap.size W1 w') [0,0,0,1,0,0,0,1,0] (by kernel_rfl) (by kernel_rfl) (by kernel_rfl) (by exact hw3.drew) ?_;apply lexF rfl;(· intro _;go_simp;(try go_bits);exact⟨rfl,rfl⟩);simp only[Act.put,List.setIfInBounds_toArray,List.set_cons_zero,List.set_cons_succ];apply lexF rfl;(· intro _;go_simp;(try go_bits);exact⟨rfl,rfl⟩);simp only[Act.put,List.setIfInBounds_toArray,List.set_cons_zero,List.set_cons_succ];apply lexF rfl;(· intro _;go_simp;(try go_bits);exact⟨rfl,rfl⟩);simp only[Act.put,List.setIfInBounds_toArray,List.set_cons_zero,List.set_cons_succ]
            apply lexH rfl;(· intro w' hw';have hcc:=cellsBelow hw';go_simp;(try go_bits);exact⟨rfl,hw'⟩);simp only[Act.put,List.setIfInBounds_toArray,List.set_cons_zero,List.set_cons_succ];apply lexF rfl;(· intro _;go_simp;(try go_bits);exact⟨rfl,rfl⟩);simp only[Act.put,List.setIfInBounds_toArray,List.set_cons_zero,List.set_cons_succ];apply lexF rfl;(· intro _;go_simp;(try go_bits);exact⟨rfl,rfl⟩);simp only[Act.put,List.setIfInBounds_toArray,List.set_cons_zero,List.set_cons_succ];apply lexF rfl;(· intro _;go_simp;(try go_bits);exact⟨rfl,rfl⟩);simp only[Act.put,List.setIfInBounds_toArray,List.set_cons_zero,List.set_cons_succ];apply lexH rfl;(· intro w' hw';have hcc:=cellsBelow hw';go_simp;(try go_bits);exact⟨rfl,hw'⟩);simp only[Act.put,List.setIfInBounds_toArray,List.set_cons_zero,List.set_cons_succ];apply lexF rfl;(· intro _;go_simp;(try go_bits);exact⟨rfl,rfl⟩);simp only[Act.put,List.setIfInBounds_toArray,List.set_cons_zero,List.set_cons_succ];refine lexEnd (fun w4 hw4=>?_);go_wp2;go_ret;exact⟨by rw[HE.out];rfl,hbw.trans (hw4.mono hbw.size)⟩
end Go.Proofs.YtlhbcopaakejgaaGreatDoor
namespace Go.Proofs.YtlhbcopaakejgaaGreatDoor
open Go.RowKit
open Go.Lib (decDigits)
theorem RefV.zero(W:World):RefV W (.slice none 0 0) 0:=.inl ⟨digs_zero,_,_,rfl⟩
end Go.Proofs.YtlhbcopaakejgaaGreatDoor
namespace Go.Proofs.YtlhbcopaakejgaaGreatDoor
open Go.RowKit
def cvL(xs ys:List Nat)(L k i:Nat):List Nat:=(List.range L).map fun t=>if t<k then cv xs ys t else if t=k then cv (xs.take i) ys k else 0
theorem cvL_len(xs ys:List Nat)(L k i:Nat):(cvL xs ys L k i).length=L:=by simp[cvL]
theorem cvL_at{xs ys:List Nat}{L k i:Nat}(h:k<L):(cvL xs ys L k i)[k]'(by rw[cvL_len];exact h)=cv (xs.take i) ys k:=by simp[cvL]
theorem cvL_set{xs ys:List Nat}{L k i x:Nat}(hx:x=cv (xs.take (i+1)) ys k):(cvL xs ys L k i).set k x=cvL xs ys L k (i+1):=by
  subst hx;refine List.ext_getElem (by simp[cvL]) fun t h1 h2=>?_
  rw[List.getElem_set];simp only[cvL,List.getElem_map,List.getElem_range]
  split
  · rename_i h;subst h;simp
  · rename_i h
    have:t≠k:=fun e=>h e.symm
    simp[this]
theorem cvL_same{xs ys:List Nat}{L k i:Nat}(h:cv (xs.take (i+1)) ys k=cv (xs.take i) ys k):cvL xs ys L k i=cvL xs ys L k (i+1):=by unfold cvL;rw[h]
theorem cvL_next{xs ys:List Nat}{L k i:Nat}(h:xs.length≤i∨k<i):cvL xs ys L k i=cvL xs ys L (k+1) 0:=by
  unfold cvL;refine List.map_congr_left fun t _=>?_
  by_cases h1:t<k
  · rw[if_pos h1,if_pos (by omega)]
  · by_cases h2:t=k
    · rw[if_neg h1,if_pos h2,if_pos (by omega),cv_take _ _ _ _ h,h2]
    · rw[if_neg h1,if_neg h2,if_neg (by omega)]
      split
      · simp[cv]
      · rfl
theorem cvL_start(xs ys:List Nat)(L:Nat):cvL xs ys L 0 0=List.replicate L 0:=by
  rw[List.eq_replicate_iff];refine⟨cvL_len ..,fun b hb=>?_⟩;obtain⟨t,_,rfl⟩:=List.mem_map.1 hb;simp[cv]
theorem cvL_end(xs ys:List Nat)(L:Nat):cvL xs ys L L 0=(List.range L).map (cv xs ys):=by
  unfold cvL;refine List.map_congr_left fun t ht=>?_
  rw[if_pos (List.mem_range.1 ht)]
structure MulR(W0:World)(D:Nat)(xs ys:List Nat)(L k i:Nat)(wr:World):Prop where
  arr:ArrI wr D (cvL xs ys L k i)
  old:Below D W0 wr
theorem MulR.step{W0 wr w':World}{D L:Nat}{xs ys:List Nat}{k i x y z:Nat}(h:MulR W0 D xs ys L k i wr)(hb:Below wr.heap.size wr w')(hz:cv (xs.take i) ys k=z)(hi:i<xs.length)(hx:xs[i]=x)(hy:ys.getD (k-i) 0=y)(hik:i≤k):
    MulR W0 D xs ys L k (i+1) (w'.setCell ⟨D,k,none⟩ (.int .i64 ((z+x*y:Nat):Int))):=by
  refine⟨?_,(h.old.trans (hb.mono (Nat.le_of_lt h.arr.lt))).setCell (p:=⟨D,k,none⟩) (Nat.le_refl _) _⟩;have:=(h.arr.below hb).store k (z+x*y)
  rwa [cvL_set (by rw[cv_take_succ _ _ _ _ hi hik,hz,hx,hy])]at this
set_option maxRecDepth 100000 in
set_option maxHeartbeats 4000000 in
theorem rmul_any(v u:Value)(n m:Nat)(w:World)(hv:RefV w v n)(hu:RefV w u m)(h1:(digs B6 n).length≤50000)(h2:(digs B6 m).length≤50000):
    Calls Tryz.prog 61 #[v,u] w fun e w'=> ∃v',e=.returned v'∧RefV w' v' (n*m)∧Below w.heap.size w w':=by
  obtain⟨i0,hi,hz0,hz1,hz2⟩:=info_parts infoI;obtain⟨p,cp,rfl,hpg⟩:=GV.slice hv;obtain⟨q,cq,rfl,hqg⟩:=GV.slice hu;have HPG:=hid hpg;have HQG:=hid hqg;have HXB:=hid (digs_lt b6_2 n);have HYB:=hid (digs_lt b6_2 m);have HVN:=hid (val_digs b6_2 n);have HVM:=hid (val_digs b6_2 m);obtain⟨xs,hxs⟩:∃xs,digs B6 n=xs:=⟨_,rfl⟩;obtain⟨ys,hys⟩:∃ys,digs B6 m=ys:=⟨_,rfl⟩;rw[hxs]at HPG HXB HVN h1⊢;rw[hys]at HQG HYB HVM h2⊢;clear hv hpg hxs hu hqg hys
  have HCB:=hid (fun(zs:List Nat) k (h:∀a∈zs,a<B6) (hl:zs.length≤50000)=>show cv zs ys k≤50000000000000000 from by
    have h3:=cv_le zs ys k 1000000 (fun a ha=>Nat.le_of_lt (h a ha)) (fun a ha=>Nat.le_of_lt (HYB.out a ha));have h4:zs.length*(1000000*1000000)≤50000*(1000000*1000000):=Nat.mul_le_mul_right _ hl;omega)
  go_enter Tryz.func61,Tryz.ntmps61;go_upto_region 2 with(at_make;go_loud (refine wpList_make_full _ rfl _ _ _ rfl w.heap.size 3 i0 _ 1 Tryz.underlying43 hi hz0 hz1 _ _ _ _ (xs.length+ys.length) rfl rfl (by simp) (by simp) (by rw[hz2];omega) (by unfold maxLen;omega) (Nat.le_refl _) ?_;intro w2 hown hgr;have hb2:Below w.heap.size w w2:=(Below.refl _ w).grown hgr (Nat.le_refl _) (by simp);have hA:=ari_made hown;clear hown hgr));have hat0:MulR w w.heap.size xs ys (xs.length+ys.length) 0 0 w2:=⟨by rw[cvL_start];exact hA,hb2⟩;clear hA hb2;go_wp2_with fail;go_loopw [6] (fun i wr=> ∃k:Nat,k≤xs.length+ys.length∧i=.int .i64 k∧MulR w w.heap.size xs ys (xs.length+ys.length) k 0 wr) (fun i _=>xs.length+ys.length-(intOf i).toNat)
  case atStart=>exact⟨0,Nat.zero_le _,rfl,hat0⟩
  case round=>
    clear hat0;obtain⟨k,hk,rfl,hat⟩:=hrel;generalize wr=W1 at hat⊢
    by_cases hlt:k<xs.length+ys.length
    · have hti:(k:Int)<((xs.length+ys.length:Nat):Int):=by omega
      have HAT:=hid hat;clear hat;go_upto_region 5 with(fail);go_wp2_with fail;go_loopw [7] (fun iv wr=> ∃i:Nat,i≤xs.length∧iv=.int .i64 i∧MulR w w.heap.size xs ys (xs.length+ys.length) k i wr) (fun iv _=>xs.length-(intOf iv).toNat)
      case atStart=>exact⟨0,Nat.zero_le _,rfl,HAT.out⟩
      case round=>
        clear HAT;obtain⟨i,hix,rfl,hat⟩:=hrel;generalize wr=W2 at hat⊢
        by_cases hik:i≤k
        · have hiki:(i:Int)≤(k:Int):=by omega
          by_cases hil:i<xs.length
          · have hili:(i:Int)<(xs.length:Int):=by omega
            obtain⟨j,hj⟩:∃j,j=k-i:=⟨_,rfl⟩;have ej:(k:Int)-(i:Int)=(j:Int):=by omega
            by_cases hjl:j<ys.length
            · have hjli:(j:Int)<(ys.length:Int):=by omega
              have hold:=hat.old;obtain⟨g,rfl,hg,_,_⟩:=HPG.out (fun e=>by subst e;simp at hil);obtain⟨g',rfl,hg',_,_⟩:=HQG.out (fun e=>by subst e;simp at hjl);have hg1:=(hg.below hold).at0 i hil;have hg2:=(hg'.below hold).at0 j hjl;have hgl:=Nat.lt_of_lt_of_le hg.lt hold.size;have hgl':=Nat.lt_of_lt_of_le hg'.lt hold.size;have hxk:=HXB.out _ (List.getElem_mem hil);have hyk:=HYB.out _ (List.getElem_mem hjl);have hzl:k<(cvL xs ys (xs.length+ys.length) k i).length:=by rw[cvL_len];exact hlt
              have hzc:=hat.arr.cell k hzl;rw[cvL_at hlt]at hzc;have hfr:=hat.arr.free;have hDl:=hat.arr.lt;have hzb:=HCB.out (xs.take i) k (fun a ha=>HXB.out a (List.mem_of_mem_take ha)) (by rw[List.length_take];omega);obtain⟨x,hx⟩:∃x,xs[i]=x:=⟨_,rfl⟩;obtain⟨y,hy⟩:∃y,ys[j]=y:=⟨_,rfl⟩;obtain⟨z,hz⟩:∃z,cv (xs.take i) ys k=z:=⟨_,rfl⟩;have HA:=hid hat.arr;have HS:=hid (fun w' (hb:Below W2.heap.size W2 w')=>hat.step hb hz hil hx (show ys.getD (k-i) 0=y by rw[←hj, ←hy,List.getD_eq_getElem?_getD,List.getElem?_eq_getElem hjl];rfl) hik);rw[hx]at hg1 hxk;rw[hy]at hg2 hyk;rw[hz]at hzc hzb;unfold iCell at hg1 hg2;rw[b6]at hxk hyk;have hm1:x*y≤1000000*1000000:=Nat.mul_le_mul (by omega) (by omega);obtain⟨t,ht,ht2⟩:∃t:Nat,x*y=t∧(x:Int)*(y:Int)=(t:Int):=⟨_,rfl,by simp only[Int.natCast_mul]⟩;rw[ht]at HS hm1;have hHZ:=HS;clear hx hy hz ht hat hj HS;go_upto_region 9 with(fail);refine wp_region_staged (fun w'=>Below W2.heap.size W2 w') [0,0,0,1,0,0,0,1,0,0,0,0,0,1,0,0,0,2] (by kernel_rfl) (by kernel_rfl) (by kernel_rfl) (by exact(Below.refl _ _).drew) ?_;apply lexF rfl;(· intro _;go_simp;(try go_bits);exact⟨rfl,rfl⟩);simp only[Act.put,List.setIfInBounds_toArray,List.set_cons_zero,List.set_cons_succ];apply lexF rfl;(· intro _;go_simp;(try go_bits);exact⟨rfl,rfl⟩);simp only[Act.put,List.setIfInBounds_toArray,List.set_cons_zero,List.set_cons_succ];apply lexF rfl;(· intro _;go_simp;(try go_bits);exact⟨rfl,rfl⟩);simp only[Act.put,List.setIfInBounds_toArray,List.set_cons_zero,List.set_cons_succ];apply lexH rfl;(· intro w' hw';have hcc:=cellsBelow hw';go_simp;(try go_bits);exact⟨rfl,hw'⟩);simp only[Act.put,List.setIfInBounds_toArray,List.set_cons_zero,List.set_cons_succ];apply lexF rfl;(· intro _;go_simp;(try go_bits);exact⟨rfl,rfl⟩);simp only[Act.put,List.setIfInBounds_toArray,List.set_cons_zero,List.set_cons_succ];apply lexF rfl;(· intro _;go_simp;(try go_bits);exact⟨rfl,rfl⟩);simp only[Act.put,List.setIfInBounds_toArray,List.set_cons_zero,List.set_cons_succ];apply lexF rfl;(· intro _;go_simp;(try go_bits);exact⟨rfl,rfl⟩);simp only[Act.put,List.setIfInBounds_toArray,List.set_cons_zero,List.set_cons_succ]
              apply lexH rfl;(· intro w' hw';have hcc:=cellsBelow hw';go_simp;(try go_bits);exact⟨rfl,hw'⟩);simp only[Act.put,List.setIfInBounds_toArray,List.set_cons_zero,List.set_cons_succ];apply lexF rfl;(· intro _;go_simp;(try go_bits);exact⟨rfl,rfl⟩);simp only[Act.put,List.setIfInBounds_toArray,List.set_cons_zero,List.set_cons_succ];apply lexF rfl;(· intro _;go_simp;(try go_bits);exact⟨rfl,rfl⟩);simp only[Act.put,List.setIfInBounds_toArray,List.set_cons_zero,List.set_cons_succ];apply lexF rfl;(· intro _;go_simp;(try go_bits);exact⟨rfl,rfl⟩);simp only[Act.put,List.setIfInBounds_toArray,List.set_cons_zero,List.set_cons_succ];apply lexF rfl;(· intro _;go_simp;(try go_bits);exact⟨rfl,rfl⟩);simp only[Act.put,List.setIfInBounds_toArray,List.set_cons_zero,List.set_cons_succ];apply lexF rfl;(· intro _;go_simp;(try go_bits);exact⟨rfl,rfl⟩);simp only[Act.put,List.setIfInBounds_toArray,List.set_cons_zero,List.set_cons_succ];apply lexH rfl;(· intro w' hw';have hcc:=cellsBelow hw';go_simp;(try go_bits);exact⟨rfl,hw'⟩);simp only[Act.put,List.setIfInBounds_toArray,List.set_cons_zero,List.set_cons_succ];apply lexF rfl;(· intro _;go_simp;(try go_bits);exact⟨rfl,rfl⟩);simp only[Act.put,List.setIfInBounds_toArray,List.set_cons_zero,List.set_cons_succ];apply lexF rfl;(· intro _;go_simp;(try go_bits);exact⟨rfl,rfl⟩);simp only[Act.put,List.setIfInBounds_toArray,List.set_cons_zero,List.set_cons_succ];apply lexF rfl;(· intro _;go_simp;(try go_bits);exact⟨rfl,rfl⟩);simp only[Act.put,List.setIfInBounds_toArray,List.set_cons_zero,List.set_cons_succ];apply lexS (fun w'=>MulR w w.heap.size xs ys (xs.length+ys.length) k (i+1) w') rfl
              · intro w' hw'
                have c0:=(HA.out.below hw').cell k hzl;have f0:=(HA.out.below hw').free;go_simp;exact⟨rfl,hHZ.out w' hw'⟩
              simp only[Act.put];refine lexEnd (fun W5 hw5=>?_);go_wp2;go_roundw
              case rel=>exact⟨i+1,by omega,by go_num,hw5⟩
              case measure=>simp[intOf];omega
            · have hjli:¬(j:Int)<(ys.length:Int):=by omega
              have hs:cv (xs.take (i+1)) ys k=cv (xs.take i) ys k:=by
                rw[cv_take_succ _ _ _ _ hil hik,List.getD_eq_getElem?_getD,List.getElem?_eq_none (by omega)];simp
              have hat2:MulR w w.heap.size xs ys (xs.length+ys.length) k (i+1) W2:=⟨by rw[←cvL_same hs];exact hat.arr,hat.old⟩;clear hs hat hj;go_wp2;go_roundw
              case rel=>exact⟨i+1,by omega,by go_num,hat2⟩
              case measure=>simp[intOf];omega
          · have hili:¬(i:Int)<(xs.length:Int):=by omega
            have hat2:MulR w w.heap.size xs ys (xs.length+ys.length) (k+1) 0 W2:=⟨by rw[←cvL_next (i:=i) (.inl (by omega))];exact hat.arr,hat.old⟩;clear hat;go_wp2;go_roundw
            case rel=>exact⟨k+1,by omega,by go_num,hat2⟩
            case measure=>simp[intOf];omega
        · have hiki:¬(i:Int)≤(k:Int):=by omega
          have hat2:MulR w w.heap.size xs ys (xs.length+ys.length) (k+1) 0 W2:=⟨by rw[←cvL_next (i:=i) (.inr (by omega))];exact hat.arr,hat.old⟩;clear hat;go_wp2;go_roundw
          case rel=>exact⟨k+1,by omega,by go_num,hat2⟩
          case measure=>simp[intOf];omega
    · obtain rfl:k=xs.length+ys.length:=by omega
      have hold:=hat.old;have harr:=hat.arr;rw[cvL_end]at harr;have hge:(List.map (cv xs ys) (List.range (xs.length+ys.length))).length=xs.length+ys.length:=by simp
      have hgv:=harr.gv (by rw[hge];unfold maxLen;omega);rw[hge]at hgv
      have HT:=hid (carried_any _ _ W1 hgv (by rw[hge];omega) (fun y hy=>by
        obtain⟨t,_,rfl⟩:=List.mem_map.1 hy;have:=HCB.out xs t HXB.out h1;omega))
      rw[val_cv xs ys _ (by omega) (by omega),HVN.out,HVM.out]at HT;clear hge hgv harr hat;have hti:¬((xs.length+ys.length:Nat):Int)<((xs.length+ys.length:Nat):Int):=by omega
      go_wp2_with (go_at_call 95;refine HT.out.mono ?_;clear HT;rintro e w3 ⟨v',rfl,hv',hw3⟩);go_ret;exact⟨_,rfl,hv',hold.trans (hw3.mono hold.size)⟩
end Go.Proofs.YtlhbcopaakejgaaGreatDoor
namespace Go.Proofs.YtlhbcopaakejgaaGreatDoor
open Go.RowKit
def zCell(z:Int):Value:=.int .i64 z
theorem iCell_z(xs:List Nat):xs.map iCell=(xs.map fun x:Nat=>(x:Int)).map zCell:=by rw[List.map_map];rfl
def RowZ(W:World)(base:Nat)(v:Value)(zs:List Int):Prop:=W.ownsRow base 3 1 v zs.length (zs.map zCell)
theorem RowZ.of{W:World}{base:Nat}{v:Value}{xs:List Nat}(h:RowI W base v xs):RowZ W base v (xs.map fun x:Nat=>(x:Int)):=by
  unfold RowZ;rw[←iCell_z,List.length_map];exact h
theorem RowZ.to{W:World}{base:Nat}{v:Value}{xs:List Nat}{zs:List Int}(h:RowZ W base v zs)(e:zs=xs.map fun x:Nat=>(x:Int)):RowI W base v xs:=by
  subst e;unfold RowZ at h;rw[←iCell_z,List.length_map]at h;exact h
theorem RowZ.slice{W:World}{base:Nat}{v:Value}{zs:List Int}(h:RowZ W base v zs)(hn:zs≠[]):∃g cap,v=.slice (some ⟨g,0,none⟩) zs.length cap∧base≤g:=by
  have hk:0<zs.length:=List.length_pos_iff.2 hn;obtain⟨g,cap,rfl,hg,_⟩:=row1_cell h (by simp) (k:=0) (by simpa using hk);exact⟨g,cap,rfl,hg⟩
theorem RowZ.at{W:World}{base g cap n:Nat}{zs:List Int}(h:RowZ W base (.slice (some ⟨g,0,none⟩) n cap) zs){k:Nat}(hk:k<zs.length):W.cell? ⟨g,k,none⟩=some (.int .i64 zs[k]):=by
  obtain⟨g',cap',e0,_,hc⟩:=row1_cell h (by simp) (k:=k) (by simpa using hk)
  injection e0 with e1
  injection e1 with e1
  injection e1 with e1
  subst e1;rw[hc,List.getElem_map];rfl
theorem RowZ.lt{W:World}{base g cap n:Nat}{zs:List Int}(h:RowZ W base (.slice (some ⟨g,0,none⟩) n cap) zs):g<W.heap.size:=(row1_lt h g rfl).2
theorem RowZ.free{W:World}{base g cap n:Nat}{zs:List Int}(h:RowZ W base (.slice (some ⟨g,0,none⟩) n cap) zs)(hn:n=zs.length):∀o,W.frozen? ⟨g,o,none⟩=false:=by
  subst hn;exact row1_free h
theorem RowZ.below{W W':World}{base:Nat}{v:Value}{zs:List Int}(h:RowZ W base v zs)(hb:Below W.heap.size W W'):RowZ W' base v zs:=row_kept_low h hb
theorem RowZ.set{W:World}{base g cap n:Nat}{zs:List Int}(h:RowZ W base (.slice (some ⟨g,0,none⟩) n cap) zs)(hn:n=zs.length)(k:Nat)(hk:k<zs.length)(z:Int):RowZ (W.setCell ⟨g,k,none⟩ (.int .i64 z)) base (.slice (some ⟨g,0,none⟩) n cap) (zs.set k z):=by
  subst hn;have:=row1_set h k (zCell z) hk;unfold RowZ;rw[List.length_set,List.map_set];exact this
def subTail(b:Int):List Nat→List Int
  |[]=>[]
  |x::r=>((x:Int)-b)::r.map fun x:Nat=>(x:Int)
theorem subTail_zero(r:List Nat):subTail 0 r=r.map fun x:Nat=>(x:Int):=by cases r<;>simp[subTail]
structure SubR(W0:World)(v:Value)(xs ys:List Nat)(k b:Nat)(wr:World):Prop where
  row:∃os:List Nat,RowZ wr W0.heap.size v (os.map (fun x:Nat=>(x:Int))++subTail b (xs.drop k))∧os.length=k∧(∀x∈os,x<B6)∧val B6 os+val B6 (ys.take k)=val B6 (xs.take k)+B6^k*b
  old:Below W0.heap.size W0 wr
  b1:b≤1
theorem sub_last{xs ys os:List Nat}{L b:Nat}(hL:xs.length=L)(ho:os.length=L)(hb:∀x∈os,x<B6)(hv:val B6 os+val B6 (ys.take L)=val B6 (xs.take L)+B6^L*b)(hle:val B6 ys≤val B6 xs):b=0:=by
  have h1:val B6 os<B6^L:=by
    have:=val_lt b6_2 hb
    rwa [ho]at this
  rw[List.take_of_length_le (show xs.length≤L by omega)]at hv
  have h2:val B6 (ys.take L)≤val B6 ys:=by
    by_cases h:L≤ys.length
    · rw[val_take_drop ys L h];exact Nat.le_add_right _ _
    · rw[List.take_of_length_le (by omega)];exact Nat.le_refl _
  rcases Nat.eq_zero_or_pos b with h|h
  · exact h
  · have:B6^L*1≤B6^L*b:=Nat.mul_le_mul_left _ h
    omega
theorem subr_val{xs ys os:List Nat}{k b x y t b':Nat}(ho:os.length=k)(hv:val B6 os+val B6 (ys.take k)=val B6 (xs.take k)+B6^k*b)(hx:val B6 (xs.take (k+1))=val B6 (xs.take k)+B6^k*x)(hy:val B6 (ys.take (k+1))=val B6 (ys.take k)+B6^k*y)
    (ht:t+b+y=x+1000000*b'):val B6 (os++[t])+val B6 (ys.take (k+1))=val B6 (xs.take (k+1))+B6^(k+1)*b':=by
  rw[val_snoc,hx,hy,ho,Nat.pow_succ,Nat.mul_assoc,b6];rw[b6]at hv;generalize (1000000:Nat)^k=p at*;have e:p*t+p*b+p*y=p*x+p*(1000000*b'):=by rw[←Nat.mul_add, ←Nat.mul_add,ht,Nat.mul_add]
  omega
theorem at_mid(os:List Int)(z:Int)(r:List Int){k:Nat}(h:os.length=k)(hk:k<(os++z::r).length):(os++z::r)[k]=z:=by subst h;simp
theorem set_mid(os:List Int)(z z':Int)(r:List Int){k:Nat}(h:os.length=k):(os++z::r).set k z'=os++z'::r:=by subst h;simp
theorem set_mid1(os:List Int)(t z z':Int)(r:List Int){k:Nat}(h:os.length=k):(os++t::z::r).set (k+1) z'=os++t::z'::r:=by
  have:=set_mid (os++[t]) z z' r (k:=k+1) (by simp[h])
  simpa using this
theorem at_mid1(os:List Int)(t z:Int)(r:List Int){k:Nat}(h:os.length=k)(hk:k+1<(os++t::z::r).length):(os++t::z::r)[k+1]=z:=by
  subst h;simp
theorem SubR.keep{W0 wr w':World}{v:Value}{xs ys os r:List Nat}{k b x y t:Nat}(_h:SubR W0 v xs ys k b wr)(ho:os.length=k)(hob:∀x∈os,x<B6)(hv:val B6 os+val B6 (ys.take k)=val B6 (xs.take k)+B6^k*b)(hd:xs.drop k=x::r)(hk:k<xs.length)(hy:val B6 (ys.take (k+1))=val B6 (ys.take k)+B6^k*y)(ht:t+b+y=x)(hx1:x<1000000)
    (hrow:RowZ w' W0.heap.size v (os.map (fun x:Nat=>(x:Int))++((t:Nat):Int)::r.map fun x:Nat=>(x:Int))) (hold:Below W0.heap.size W0 w'):SubR W0 v xs ys (k+1) 0 w':=by
  have hx:xs[k]=x:=by rw[List.drop_eq_getElem_cons hk]at hd;exact(List.cons.inj hd).1
  have hr:xs.drop (k+1)=r:=by rw[List.drop_eq_getElem_cons hk]at hd;exact(List.cons.inj hd).2
  refine⟨⟨os++[t],?_,by simp[ho],fun z hz=>?_,subr_val ho hv (by rw[val_take_succ hk,hx]) hy (by omega)⟩,hold,by omega⟩
  · rw[hr,show((0:Nat):Int)=0 from rfl,subTail_zero]
    simpa using hrow
  · rcases List.mem_append.1 hz with h1|h1
    · exact hob z h1
    · simp only[List.mem_cons,List.not_mem_nil,or_false]at h1;rw[h1,b6];omega
theorem SubR.bor{W0 wr w':World}{v:Value}{xs ys os r:List Nat}{k b x y t x':Nat}(_h:SubR W0 v xs ys k b wr)(ho:os.length=k)(hob:∀x∈os,x<B6)(hv:val B6 os+val B6 (ys.take k)=val B6 (xs.take k)+B6^k*b)(hd:xs.drop k=x::x'::r)(hk:k<xs.length)(hy:val B6 (ys.take (k+1))=val B6 (ys.take k)+B6^k*y)(ht:t+b+y=x+1000000)(ht1:t<1000000)
    (hrow:RowZ w' W0.heap.size v (os.map (fun x:Nat=>(x:Int))++((t:Nat):Int)::(((x':Nat):Int)-1)::r.map fun x:Nat=>(x:Int))) (hold:Below W0.heap.size W0 w'):SubR W0 v xs ys (k+1) 1 w':=by
  have hx:xs[k]=x:=by rw[List.drop_eq_getElem_cons hk]at hd;exact(List.cons.inj hd).1
  have hr:xs.drop (k+1)=x'::r:=by rw[List.drop_eq_getElem_cons hk]at hd;exact(List.cons.inj hd).2
  refine⟨⟨os++[t],?_,by simp[ho],fun z hz=>?_,subr_val ho hv (by rw[val_take_succ hk,hx]) hy (by omega)⟩,hold,by omega⟩
  · rw[hr]
    simpa[subTail]using hrow
  · rcases List.mem_append.1 hz with h1|h1
    · exact hob z h1
    · simp only[List.mem_cons,List.not_mem_nil,or_false]at h1;rw[h1,b6];omega
theorem ys_here{ys:List Nat}{k:Nat}(h:k<ys.length):val B6 (ys.take (k+1))=val B6 (ys.take k)+B6^k*ys[k]:=val_take_succ h
theorem ys_gone{ys:List Nat}{k:Nat}(h:ys.length≤k):val B6 (ys.take (k+1))=val B6 (ys.take k)+B6^k*0:=by
  rw[List.take_of_length_le (by omega),List.take_of_length_le h];simp
theorem sub_more{xs ys os r:List Nat}{k b x y t:Nat}(ho:os.length=k)(hob:∀x∈os,x<B6)(hv:val B6 os+val B6 (ys.take k)=val B6 (xs.take k)+B6^k*b)(hd:xs.drop k=x::r)(hk:k<xs.length)(hy:val B6 (ys.take (k+1))=val B6 (ys.take k)+B6^k*y)(ht:t+b+y=x+1000000)(ht1:t<1000000)(hle:val B6 ys≤val B6 xs):∃x' r',r=x'::r':=by
  have hx:xs[k]=x:=by rw[List.drop_eq_getElem_cons hk]at hd;exact(List.cons.inj hd).1
  cases r with
  |cons x' r'=>exact⟨_,_,rfl⟩
  | nil=>
    have hl:xs.length=k+1:=by have:=congrArg List.length hd;rw[List.length_drop]at this;simp at this;omega
    have:=sub_last hl (os:=os++[t]) (by simp[ho]) (fun z hz=>by
      rcases List.mem_append.1 hz with h1|h1
      · exact hob z h1
      · simp only[List.mem_cons,List.not_mem_nil,or_false]at h1;rw[h1,b6];exact ht1) (subr_val ho hv (by rw[val_take_succ hk,hx]) hy (b':=1) (by omega)) hle
    omega
theorem rsub_err(v u:Value)(n m:Nat)(w:World)(hv:RefV w v n)(hu:RefV w u m)(h1:(digs B6 n).length≤900000)(h2:(digs B6 m).length≤900000)(hlt:n<m):
    Calls Tryz.prog 67 #[v,u] w fun e w'=>e=.returned (.tuple #[.slice none 0 0,.int .i64 2])∧Below w.heap.size w w':=by
  have HC:=hid (rcmp_any v u n m w hv hu h1 h2);rw[cmpN_lt hlt]at HC;clear hv hu h1 h2 hlt;go_enter Tryz.func67,Tryz.ntmps67;go_wp2_with (go_at_call 66;refine HC.out.mono ?_;clear HC;rintro e w1 ⟨rfl,hw1⟩);go_ret2;exact⟨rfl,hw1⟩
set_option maxRecDepth 100000 in
set_option maxHeartbeats 4000000 in
theorem rsub_ok(v u:Value)(n m:Nat)(w:World)(hv:RefV w v n)(hu:RefV w u m)(h1:(digs B6 n).length≤900000)(h2:(digs B6 m).length≤900000)(hle:m≤n):
    Calls Tryz.prog 67 #[v,u] w fun e w'=> ∃v',e=.returned (.tuple #[v',.int .i64 0])∧RefV w' v' (n-m)∧Below w.heap.size w w':=by
  obtain⟨i0,hi,hz0,hz1,hz2⟩:=info_parts infoI;have HC:=hid (fun w1 (hb:Below w.heap.size w w1)=>rcmp_any v u n m w1 (hv.below hb) (hu.below hb) h1 h2);have hcn:¬cmpN n m<0:=by unfold cmpN;rw[if_neg (by omega)];split<;>omega
  obtain⟨p,cp,rfl,hpg⟩:=GV.slice hv;obtain⟨q,cq,rfl,hqg⟩:=GV.slice hu;have HPG:=hid hpg;have HQG:=hid hqg;have HXB:=hid (digs_lt b6_2 n);have HYB:=hid (digs_lt b6_2 m);have HVN:=hid (val_digs b6_2 n);have HVM:=hid (val_digs b6_2 m);obtain⟨xs,hxs⟩:∃xs,digs B6 n=xs:=⟨_,rfl⟩;obtain⟨ys,hys⟩:∃ys,digs B6 m=ys:=⟨_,rfl⟩;rw[hxs]at HPG HXB HVN HC h1⊢;rw[hys]at HQG HYB HVM HC h2⊢;have HLE:=hid (show val B6 ys≤val B6 xs by rw[HVN.out,HVM.out];exact hle);have HLEN:=hid hle;obtain⟨cm,hcm⟩:∃cm,cmpN n m=cm:=⟨_,rfl⟩;rw[hcm]at hcn HC;have HYS:=hid hys;clear hv hpg hxs hu hqg hys hle hcm;go_enter Tryz.func67,Tryz.ntmps67;go_upto_region 3 with(go_at_call 66;refine(HC.out _ (Below.refl _ _)).mono ?_;clear HC;rintro e w1 ⟨rfl,hw1⟩)
  have hpsrc:xs.length=0∨ ∃ad,p=some ad∧ ∀j u,(xs.map iCell)[j]?=some u→(w1.alloc (.cells #[] 3)).cell? (ad.add j)=some u:=by
    by_cases hx0:xs=[]
    · exact .inl (by rw[hx0];rfl)
    · obtain⟨g,rfl,hg,_,_⟩:=HPG.out hx0
      refine .inr ⟨_,rfl,fun j u hu=>?_⟩;have hgb:=(hg.below hw1).below ((Below.refl w1.heap.size w1).alloc (Nat.le_refl _) (.cells #[] 3));obtain⟨hi',rfl⟩:=List.getElem?_eq_some_iff.1 hu;rw[add_at,List.getElem_map];exact hgb.at0 j (by simpa using hi')
  go_upto_region 4 with(at_builtin;go_loud (refine wpList_append_two rfl _ _ 43 44 rfl w.heap.size 3 3 i0 _ 8 Tryz.underlying43 Tryz.underlying44 hi hz0 hz1 hz2 rfl _ 0 [] rfl (row_empty w1 3 _ hw1.size) p xs.length cp (xs.map iCell) rfl (by simp) hpsrc (all_i _) (by simp[maxLen];omega) (by omega) (by have:=hw1.size;simp;omega) ?_;intro v' w2 hown hgr;have hb2:=(hw1.alloc hw1.size _).grown hgr (by have:=hw1.size;simp;omega) (fun k' hk'=>by injection hk' with hk';subst hk';exact hw1.size)))
  have hrow0:RowI w2 w.heap.size v' xs:=by
    unfold RowI
    simpa using hown
  have hat0:SubR w v' xs ys 0 0 w2:=⟨⟨[],by have:=RowZ.of hrow0;rw[List.drop_zero,show((0:Nat):Int)=0 from rfl,subTail_zero];exact this,rfl,fun x h=>absurd h (List.not_mem_nil),by simp[val]⟩,hb2,by omega⟩;clear hrow0 hown hgr hb2 hpsrc hw1;generalize v'=o at hat0⊢;go_wp2_with fail;go_loopw [7] (fun i wr=> ∃k b:Nat,k≤xs.length∧i=.int .i64 k∧SubR w o xs ys k b wr) (fun i _=>xs.length-(intOf i).toNat)
  case atStart=>exact⟨0,0,Nat.zero_le _,rfl,hat0⟩
  case round=>
    clear hat0;obtain⟨k,b,hk,rfl,hat⟩:=hrel;generalize wr=W1 at hat⊢
    by_cases hlt:k<xs.length
    · obtain⟨os,hrow,hol,hob,hov⟩:=hat.row
      have hold:=hat.old;have hb1:=hat.b1;have hxb:=HXB.out _ (List.getElem_mem hlt);obtain⟨x,hx⟩:∃x,xs[k]=x:=⟨_,rfl⟩;rw[hx,b6]at hxb;obtain⟨r,hr⟩:∃r,xs.drop k=x::r:=⟨_,by rw[List.drop_eq_getElem_cons hlt,hx]⟩;have hrl:k+1+r.length=xs.length:=by have:=congrArg List.length hr;rw[List.length_drop,List.length_cons]at this;omega
      have HKEEP:=hid (fun(w':World) (t y:Nat) hy ht hrow' hold'=>SubR.keep (w':=w') (t:=t) (y:=y) hat hol hob hov hr hlt hy ht hxb hrow' hold');have HBOR:=hid (fun(w':World) (t y x':Nat) (r':List Nat) (e:r=x'::r') hy ht ht1 hrow' hold'=>SubR.bor (w':=w') (t:=t) (y:=y) hat hol hob hov (hr.trans (by rw[e])) hlt hy ht ht1 hrow' hold');have HMORE:=hid (fun(t y:Nat) hy ht ht1=>sub_more (t:=t) (y:=y) hol hob hov hr hlt hy ht ht1 HLE.out);have HR3:=hid hr;rw[hr]at hrow;obtain⟨z,hz⟩:∃z:Int,(x:Int)-(b:Int)=z:=⟨_,rfl⟩;rw[show subTail (b:Int) (x::r)=((x:Int)-b)::r.map (fun x:Nat=>(x:Int))from rfl,hz]at hrow;have hos:(os.map (fun x:Nat=>(x:Int))).length=k:=by simpa using hol
      have hlen:∀t:Int,(os.map (fun x:Nat=>(x:Int))++t::r.map (fun x:Nat=>(x:Int))).length=xs.length:=fun t=>by rw[List.length_append,hos,List.length_cons,List.length_map];omega
      clear hat hx hr hob hov;obtain⟨g,cap,e0,hg⟩:=hrow.slice (by simp);rw[hlen]at e0;subst e0;have HZ:=hid hz;have c0:=hrow.at (k:=k) (by rw[hlen];exact hlt);rw[at_mid _ _ _ hos]at c0;have f0:=hrow.free (hlen z).symm;have hgl:=hrow.lt;clear hz;have hti:(k:Int)<(xs.length:Int):=by omega
      by_cases hyl:k<ys.length
      · have hyi:(k:Int)<(ys.length:Int):=by omega
        obtain⟨g',rfl,hg',_,_⟩:=HQG.out (fun e=>by subst e;simp at hyl);have g1:=(hg'.below hold).at0 k hyl;have gl':=Nat.lt_of_lt_of_le hg'.lt hold.size;have hyb:=HYB.out _ (List.getElem_mem hyl);have HY:=hid (ys_here hyl);obtain⟨y,hy⟩:∃y,ys[k]=y:=⟨_,rfl⟩;rw[hy]at g1 hyb HY;rw[b6]at hyb;unfold iCell at g1;obtain⟨tz,htz⟩:∃tz:Int,z-(y:Int)=tz:=⟨_,rfl⟩;have hzb:z≤1000000∧ -1≤z:=by have:=HZ.out;omega
        have hzb1:=hzb.1;have hzb2:=hzb.2;have HTZ:=hid (show(x:Int)-b-y=tz by rw[HZ.out];exact htz);clear hy hzb;have HW:=hid hrow;go_upto_region 8 with(fail);refine wp_region_staged (fun w'=>Below W1.heap.size W1 w') [0,0,0,1,0,0,0,1,0,0,2] (by kernel_rfl) (by kernel_rfl) (by kernel_rfl) (by exact(Below.refl _ _).drew) ?_;apply lexF rfl;(· intro _;go_simp;(try go_bits);exact⟨rfl,rfl⟩);simp only[Act.put,List.setIfInBounds_toArray,List.set_cons_zero,List.set_cons_succ];apply lexF rfl;(· intro _;go_simp;(try go_bits);exact⟨rfl,rfl⟩);simp only[Act.put,List.setIfInBounds_toArray,List.set_cons_zero,List.set_cons_succ];apply lexF rfl;(· intro _;go_simp;(try go_bits);exact⟨rfl,rfl⟩);simp only[Act.put,List.setIfInBounds_toArray,List.set_cons_zero,List.set_cons_succ];apply lexH rfl;(· intro w' hw';have hcc:=cellsBelow hw';go_simp;(try go_bits);exact⟨rfl,hw'⟩);simp only[Act.put,List.setIfInBounds_toArray,List.set_cons_zero,List.set_cons_succ];apply lexF rfl;(· intro _;go_simp;(try go_bits);exact⟨rfl,rfl⟩);simp only[Act.put,List.setIfInBounds_toArray,List.set_cons_zero,List.set_cons_succ];apply lexF rfl;(· intro _;go_simp;(try go_bits);exact⟨rfl,rfl⟩);simp only[Act.put,List.setIfInBounds_toArray,List.set_cons_zero,List.set_cons_succ];apply lexF rfl;(· intro _;go_simp;(try go_bits);exact⟨rfl,rfl⟩);simp only[Act.put,List.setIfInBounds_toArray,List.set_cons_zero,List.set_cons_succ];apply lexH rfl;(· intro w' hw';have hcc:=cellsBelow hw';go_simp;(try go_bits);exact⟨rfl,hw'⟩);simp only[Act.put,List.setIfInBounds_toArray,List.set_cons_zero,List.set_cons_succ];apply lexF rfl;(· intro _;go_simp;(try go_bits);exact⟨rfl,rfl⟩);simp only[Act.put,List.setIfInBounds_toArray,List.set_cons_zero,List.set_cons_succ];apply lexF rfl;(· intro _;go_simp;(try go_bits);exact⟨rfl,rfl⟩);simp only[Act.put,List.setIfInBounds_toArray,List.set_cons_zero,List.set_cons_succ];apply lexS (fun w'=>RowZ w' w.heap.size (.slice (some ⟨g,0,none⟩) xs.length cap) (os.map (fun x:Nat=>(x:Int))++tz::r.map (fun x:Nat=>(x:Int)))∧Below w.heap.size w w') rfl
        · intro w' hw'
          have hr':=HW.out.below hw';have c1:=hr'.at (k:=k) (by rw[hlen];exact hlt);rw[at_mid _ _ _ hos]at c1;have f1:=hr'.free (hlen z).symm;go_simp;refine⟨rfl,?_,(hold.trans (hw'.mono hold.size)).setCell (p:=⟨g,k,none⟩) hg _⟩;have:=hr'.set (hlen z).symm k (by rw[hlen];exact hlt) tz
          rwa [set_mid _ _ _ _ hos]at this
        simp only[Act.put];refine lexEnd (fun W5 hw5=>?_);obtain⟨HR,HB⟩:=hw5;clear c0 f0 g1 htz;have c1:=HR.at (k:=k) (by rw[hlen];exact hlt);rw[at_mid _ _ _ hos]at c1;have f1:=HR.free (hlen tz).symm;have hgl1:=HR.lt;have hzr:=HTZ.out
        by_cases hneg:tz<0
        · obtain⟨t,ht⟩:∃t:Nat,tz+1000000=(t:Int):=⟨(tz+1000000).toNat,by omega⟩
          have htb:t<1000000:=by omega
          have hte:t+b+y=x+1000000:=by omega
          obtain⟨x',r',hre⟩:=HMORE.out t y HY.out hte htb;have HBO:=hid (fun w'=>HBOR.out w' t y x' r' hre HY.out hte htb);subst hre
          have hx':(x':Int)≤1000000:=by
            have h3:=HXB.out x' (by
              have:=HR3.out;rw[←List.take_append_drop k xs,this];simp)
            rw[b6]at h3;omega
          clear hzr hte;go_upto_region 10 with(fail);go_upto_region 11 with(fail)
          obtain⟨W6,hW6,hR6,hB6⟩:∃W6,W6=W5.setCell ⟨g,k,none⟩ (.int .i64 (t:Int))∧RowZ W6 w.heap.size (.slice (some ⟨g,0,none⟩) xs.length cap) (os.map (fun x:Nat=>(x:Int))++(t:Int)::(x':Int)::r'.map (fun x:Nat=>(x:Int)))∧Below w.heap.size w W6:=by
            refine⟨_,rfl,?_,HB.setCell (p:=⟨g,k,none⟩) hg _⟩;have:=HR.set (hlen tz).symm k (by rw[hlen];exact hlt) (t:Int)
            rwa [set_mid _ _ _ _ hos]at this
          rw[←hW6];clear hW6 c1 f1 hgl1;have hl6:(os.map (fun x:Nat=>(x:Int))++(t:Int)::(x':Int)::r'.map (fun x:Nat=>(x:Int))).length=xs.length:=hlen t;have hk1:k+1<xs.length:=by rw[List.length_cons]at hrl;omega
          have c2:=hR6.at (k:=k+1) (by rw[hl6];exact hk1);rw[at_mid1 _ _ _ _ hos]at c2;have f2:=hR6.free hl6.symm;have hgl2:=hR6.lt;have hR7:=hR6.set hl6.symm (k+1) (by rw[hl6];exact hk1) ((x':Int)-1);rw[set_mid1 _ _ _ _ _ hos]at hR7;have hk1i:(k:Int)+1<(xs.length:Int):=by omega
          go_wp2;go_roundw
          case rel=>exact⟨k+1,1,by omega,by go_num,HBO.out _ hR7 (hB6.setCell (p:=⟨g,k+1,none⟩) hg _)⟩
          case measure=>simp[intOf];omega
        · obtain⟨t,rfl⟩:∃t:Nat,tz=(t:Int):=⟨tz.toNat,by omega⟩
          have hK:=HKEEP.out W5 t y HY.out (by omega) HR HB;clear hzr;go_wp2;go_roundw
          case rel=>exact⟨k+1,0,by omega,by go_num,hK⟩
          case measure=>simp[intOf];omega
      · have hyi:¬(k:Int)<(ys.length:Int):=by omega
        have HY:=hid (ys_gone (k:=k) (ys:=ys) (by omega));have HTZ:=hid (show(x:Int)-b-((0:Nat):Int)=z by rw[HZ.out];simp);have HR:=hrow;have HB:=hold;generalize z=tz at*;go_upto_region 9 with(fail);clear c0 f0 hgl;have c1:=HR.at (k:=k) (by rw[hlen];exact hlt);rw[at_mid _ _ _ hos]at c1;have f1:=HR.free (hlen tz).symm;have hgl1:=HR.lt;have hzr:=HTZ.out
        by_cases hneg:tz<0
        · obtain⟨t,ht⟩:∃t:Nat,tz+1000000=(t:Int):=⟨(tz+1000000).toNat,by omega⟩
          have htb:t<1000000:=by omega
          have hte:t+b+0=x+1000000:=by omega
          obtain⟨x',r',hre⟩:=HMORE.out t 0 HY.out hte htb;have HBO:=hid (fun w'=>HBOR.out w' t 0 x' r' hre HY.out hte htb);subst hre
          have hx':(x':Int)≤1000000:=by
            have h3:=HXB.out x' (by
              have:=HR3.out;rw[←List.take_append_drop k xs,this];simp)
            rw[b6]at h3;omega
          clear hzr hte;go_upto_region 10 with(fail);go_upto_region 11 with(fail)
          obtain⟨W6,hW6,hR6,hB6⟩:∃W6,W6=W1.setCell ⟨g,k,none⟩ (.int .i64 (t:Int))∧RowZ W6 w.heap.size (.slice (some ⟨g,0,none⟩) xs.length cap) (os.map (fun x:Nat=>(x:Int))++(t:Int)::(x':Int)::r'.map (fun x:Nat=>(x:Int)))∧Below w.heap.size w W6:=by
            refine⟨_,rfl,?_,HB.setCell (p:=⟨g,k,none⟩) hg _⟩;have:=HR.set (hlen tz).symm k (by rw[hlen];exact hlt) (t:Int)
            rwa [set_mid _ _ _ _ hos]at this
          rw[←hW6];clear hW6 c1 f1 hgl1;have hl6:(os.map (fun x:Nat=>(x:Int))++(t:Int)::(x':Int)::r'.map (fun x:Nat=>(x:Int))).length=xs.length:=hlen t;have hk1:k+1<xs.length:=by rw[List.length_cons]at hrl;omega
          have c2:=hR6.at (k:=k+1) (by rw[hl6];exact hk1);rw[at_mid1 _ _ _ _ hos]at c2;have f2:=hR6.free hl6.symm;have hgl2:=hR6.lt;have hR7:=hR6.set hl6.symm (k+1) (by rw[hl6];exact hk1) ((x':Int)-1);rw[set_mid1 _ _ _ _ _ hos]at hR7;have hk1i:(k:Int)+1<(xs.length:Int):=by omega
          go_wp2;go_roundw
          case rel=>exact⟨k+1,1,by omega,by go_num,HBO.out _ hR7 (hB6.setCell (p:=⟨g,k+1,none⟩) hg _)⟩
          case measure=>simp[intOf];omega
        · obtain⟨t,rfl⟩:∃t:Nat,tz=(t:Int):=⟨tz.toNat,by omega⟩
          have hK:=HKEEP.out W1 t 0 HY.out (by omega) HR HB;clear hzr;go_wp2;go_roundw
          case rel=>exact⟨k+1,0,by omega,by go_num,hK⟩
          case measure=>simp[intOf];omega
    · obtain rfl:k=xs.length:=by omega
      obtain⟨os,hrow,hol,hob,hov⟩:=hat.row;have hold:=hat.old;have hb0:=sub_last rfl hol hob hov HLE.out;subst hb0;rw[List.drop_length]at hrow;have hri:RowI W1 w.heap.size o os:=hrow.to (by simp[subTail]);have HT:=hid (without_any o os W1 hri.gv (by omega))
      have hve:val B6 os=n-m:=by
        have h3:val B6 (ys.take xs.length)=m:=by
          rw[←HVM.out]
          by_cases h:xs.length<ys.length
          · exfalso
            have h4:=val_lt b6_2 HXB.out;rw[HVN.out]at h4;have h5:=HLEN.out;have h6:(digs B6 m).length≤xs.length:=digs_len_le b6_2 _ _ (by omega);rw[HYS.out]at h6;omega
          · rw[List.take_of_length_le (by omega)]
        rw[h3,List.take_length,HVN.out]at hov;omega
      rw[←digs_val b6_2 hob,hve]at HT;obtain⟨po,co,e0⟩:=row_slice hri;rw[hol]at e0;subst e0;clear hve hov hrow hri hat;have hti:¬(xs.length:Int)<(xs.length:Int):=by omega
      go_wp2_with (go_at_call 98;refine HT.out.mono ?_;clear HT;rintro e w3 ⟨v',rfl,hv',hw3⟩);go_ret2;exact⟨_,rfl,hv',hold.trans (hw3.mono hold.size)⟩
end Go.Proofs.YtlhbcopaakejgaaGreatDoor
namespace Go.Proofs.YtlhbcopaakejgaaGreatDoor
open Go.RowKit
set_option maxRecDepth 100000 in
set_option maxHeartbeats 2000000 in
theorem ruint_any(v:Value)(n:Nat)(w:World)(hv:RefV w v n)(h1:(digs B6 n).length≤900000):
    Calls Tryz.prog 128 #[v] w fun e w'=>e=.returned (u64V n)∧Below w.heap.size w w':=by
  obtain⟨p,cp,rfl,hpg⟩:=GV.slice hv;have HPG:=hid hpg;have HXB:=hid (digs_lt b6_2 n);have HVN:=hid (val_digs b6_2 n);obtain⟨xs,hxs⟩:∃xs,digs B6 n=xs:=⟨_,rfl⟩;rw[hxs]at HPG HXB HVN h1⊢;obtain⟨u,hu⟩:∃u,u64V n=u:=⟨_,rfl⟩;have HU:=hid hu;rw[hu];clear hv hpg hxs hu;go_enter Tryz.func128,Tryz.ntmps128;go_wp2_with fail;go_loopw [4,5] (fun nv i wr=> ∃k T:Nat,k≤xs.length∧i=.int .i64 ((k:Int)-1)∧nv=.int .u64 (T:Int)∧T<18446744073709551616∧RowKit.Hid (T=val B6 (xs.drop k))∧Below w.heap.size w wr) (fun _ i _=>(intOf i+1).toNat)
  case atStart=>exact⟨xs.length,0,Nat.le_refl _,rfl,rfl,by omega,hid (by rw[List.drop_length];rfl),Below.refl _ _⟩
  case round=>
    obtain⟨k,T,hk,rfl,rfl,hT,HT,hbw⟩:=hrel;generalize wr=W1 at hbw⊢
    by_cases hk0:k=0
    · subst hk0
      have HE:=hid (show u=.tuple #[.int .u64 (T:Int),.bool true] by
        have e:T=n:=by have:=HT.out;rw[List.drop_zero]at this;rw[this,HVN.out]
        rw[←HU.out];unfold u64V;rw[←e,if_pos hT,decide_eq_true hT])
      go_wp2;go_ret2;exact⟨HE.out.symm▸rfl,hbw⟩
    · obtain⟨j,rfl⟩:∃j,k=j+1:=⟨k-1,by omega⟩
      have hj:j<xs.length:=by omega
      have ei:(((j+1:Nat):Int)-1)=(j:Int):=by omega
      rw[ei];clear ei;obtain⟨g,rfl,hg,_,_⟩:=HPG.out (fun e=>by subst e;simp at hj);have g0:=(hg.below hbw).at0 j hj;unfold iCell at g0;have gl:=Nat.lt_of_lt_of_le hg.lt hbw.size;have q0:0≤(j:Int):=by omega
      have hx1:=HXB.out _ (List.getElem_mem hj);rw[b6]at hx1;obtain⟨x,hx⟩:∃x,xs[j]=x:=⟨_,rfl⟩;have HN:=hid (show x+1000000*T=val B6 (xs.drop j) by rw[val_drop hj, ←HT.out,hx,b6]);rw[hx]at g0 hx1;clear hx
      by_cases hbig:(18446744073709551615-x)/1000000<T
      · have HE:=hid (show u=.tuple #[.int .u64 0,.bool false] by
          have e:¬n<18446744073709551616:=by
            have h3:=val_take_drop (B:=B6) xs j (by omega);rw[HVN.out, ←HN.out]at h3;have h4:1*(x+1000000*T)≤B6^j*(x+1000000*T):=Nat.mul_le_mul_right _ (Nat.pow_pos (by decide));omega
          rw[←HU.out];unfold u64V;rw[if_neg e,decide_eq_false e])
        have q:(18446744073709551615-(x:Int))/1000000<(T:Int):=by omega
        clear hbig;go_wp2;go_ret2;exact⟨HE.out.symm▸rfl,hbw⟩
      · have q:¬(18446744073709551615-(x:Int))/1000000<(T:Int):=by omega
        have hb:x+1000000*T<18446744073709551616:=by omega
        have hbi:(T:Int)*1000000+(x:Int)≤18446744073709551615:=by omega
        clear hbig;go_upto_region 8 with(fail);have e2:(T:Int)*1000000+(x:Int)=((x+1000000*T:Nat):Int):=by omega
        obtain⟨t,ht⟩:∃t,x+1000000*T=t:=⟨_,rfl⟩;rw[ht]at hb e2 HN;clear q ht;go_wp2;go_roundw
        case rel=>exact⟨j,t,by omega,by go_num,rfl,hb,HN,hbw⟩
        case measure=>simp[intOf]
structure HalfAt(W0:World)(D L:Nat)(xs:List Nat)(k od:Nat)(wr:World):Prop where
  arr:∃ys,ArrI wr D ys∧ys.length=L∧(∀y∈ys,y<B6)∧val B6 (ys.drop k)*2+od=val B6 (xs.drop k)
  old:Below D W0 wr
  o1:od≤1
theorem HalfAt.step{W0 wr:World}{D L:Nat}{xs:List Nat}{j od x:Nat}(h:HalfAt W0 D L xs (j+1) od wr)(hL:xs.length=L)(hj:j<xs.length)(hx:xs[j]=x)(hx1:x<1000000):
    HalfAt W0 D L xs j ((od*1000000+x)%2) (wr.setCell ⟨D,j,none⟩ (.int .i64 (((od*1000000+x)/2:Nat):Int))):=by
  have ho:=h.o1;obtain⟨⟨ys,h1,h2,h3,h4⟩,h5,_⟩:=h;refine⟨⟨ys.set j ((od*1000000+x)/2),h1.store _ _,by simpa using h2,all_set h3 (by rw[b6];omega),?_⟩,h5.setCell (p:=⟨D,j,none⟩) (Nat.le_refl _) _,by omega⟩;rw[val_drop_set (by omega),val_drop hj,hx, ←h4,b6];omega
end Go.Proofs.YtlhbcopaakejgaaGreatDoor
namespace Go.Proofs.YtlhbcopaakejgaaGreatDoor
open Go.RowKit
theorem digs6_mul{n m:Nat}(hm:m≤1000000){L:Nat}(h:(digs B6 n).length≤L):(digs B6 (n*m)).length≤L+2:=by
  refine digs_len_le b6_2 _ _ ?_;have h1:=val_lt b6_2 (digs_lt b6_2 n);rw[val_digs b6_2]at h1;have h2:n<B6^L:=Nat.lt_of_lt_of_le h1 (Nat.pow_le_pow_right (by decide) h);rw[Nat.pow_add];refine Nat.lt_of_lt_of_le (Nat.mul_lt_mul_of_lt_of_le h2 hm (by decide)) (Nat.mul_le_mul_left _ (by decide))
theorem digs6_mono{n m:Nat}(h:n≤m){L:Nat}(hm:(digs B6 m).length≤L):(digs B6 n).length≤L:=by
  refine digs_len_le b6_2 _ _ ?_;have h1:=val_lt b6_2 (digs_lt b6_2 m);rw[val_digs b6_2]at h1;exact Nat.lt_of_lt_of_le (Nat.lt_of_le_of_lt h h1) (Nat.pow_le_pow_right (by decide) hm)
set_option maxRecDepth 100000 in
set_option maxHeartbeats 2000000 in
theorem fits_any(v u:Value)(n m:Nat)(w:World)(hv:RefV w v n)(hu:RefV w u m)(hm:0<m)(hlt:n<B6*m)(h1:(digs B6 n).length≤100000)(h2:(digs B6 m).length≤100000):
    Calls Tryz.prog 129 #[v,u] w fun e w'=>e=.returned (.int .i64 ((n/m:Nat):Int))∧Below w.heap.size w w':=by
  have HT:=hid (fun(k:Nat) (hk:k≤1000000) w1 (hb:Below w.heap.size w w1)=>times_any u m k w1 (hu.below hb) (by omega) (by omega));have HC:=hid (fun(x:Value) (k:Nat) (hk:k≤1000000) w1 (hb:Below w.heap.size w w1) (hx:RefV w1 x (m*k))=>rcmp_any x v (m*k) n w1 hx (hv.below hb) (by have:=digs6_mul (n:=m) (m:=k) hk h2;omega) (by omega));have HQ:=hid (show n/m<1000000 by rw[Nat.div_lt_iff_lt_mul hm];rw[b6]at hlt;exact hlt);have HM:=hid hm;clear hv hu h1 h2 hlt hm;go_enter Tryz.func129,Tryz.ntmps129;go_wp2_with fail;go_loopw [5,6] (fun lv mv wr=> ∃a b:Nat,lv=.int .i64 (a:Int)∧mv=.int .i64 (b:Int)∧a≤b∧b≤999999∧RowKit.Hid (a≤n/m∧n/m≤b)∧Below w.heap.size w wr) (fun lv mv _=>(intOf mv).toNat-(intOf lv).toNat)
  case atStart=>exact⟨0,999999,rfl,rfl,by omega,by omega,hid ⟨Nat.zero_le _,by have:=HQ.out;omega⟩,Below.refl _ _⟩
  case round=>
    obtain⟨a,b,rfl,rfl,hab,hb9,HR,hbw⟩:=hrel;generalize wr=W1 at hbw⊢
    by_cases hlt:a<b
    · have hlti:(a:Int)<(b:Int):=by omega
      obtain⟨k,hk,hka,hkb⟩:∃k:Nat,((a:Int)+(b:Int)+1)/2=(k:Int)∧a<k∧k≤b:=⟨(a+b+1)/2,by omega,by omega,by omega⟩;have HT1:=hid (HT.out k (by omega) W1 hbw);have HC1:=hid (HC.out · k (by omega) · · ·);have hks:0≤((a:Int)+(b:Int)+1)/2:=by omega
      by_cases hle:m*k≤n
      · have HE:=hid (show cmpN (m*k) n≤0 by unfold cmpN;split<;>(try split)<;>omega)
        have hq:k≤n/m:=by rw[Nat.le_div_iff_mul_le HM.out,Nat.mul_comm];exact hle
        have HR2:=hid (show k≤n/m∧n/m≤b from⟨hq,HR.out.2⟩);obtain⟨cm,hcm⟩:∃cm,cmpN (m*k) n=cm:=⟨_,rfl⟩;rw[hcm]at HE HC1;have hce:=HE.out;clear hcm hle hq;go_upto_region 4 with(fail)
        go_wp2_with (first
          |(go_at_call 130;refine HT1.out.mono ?_;clear HT1;rintro e W2 ⟨x,rfl,hx,hw2⟩;have hb2:=hbw.trans (hw2.mono hbw.size))
          |(go_at_call 66;refine(HC1.out _ _ hb2 hx).mono ?_;clear HC1;rintro e W3 ⟨rfl,hw3⟩))
        go_roundw
        case rel=>exact⟨k,b,rfl,rfl,by omega,hb9,HR2,hb2.trans (hw3.mono hb2.size)⟩
        case measure=>simp[intOf];omega
      · have HE:=hid (show ¬cmpN (m*k) n≤0 by unfold cmpN;rw[if_neg (by omega),if_pos (by omega)];decide)
        have hq:n/m<k:=by rw[Nat.div_lt_iff_lt_mul HM.out,Nat.mul_comm];omega
        have HR2:=hid (show a≤n/m∧n/m≤k-1 from⟨HR.out.1,by omega⟩);obtain⟨cm,hcm⟩:∃cm,cmpN (m*k) n=cm:=⟨_,rfl⟩;rw[hcm]at HE HC1;have hce:=HE.out;clear hcm hle hq;go_upto_region 4 with(fail)
        go_wp2_with (first
          |(go_at_call 130;refine HT1.out.mono ?_;clear HT1;rintro e W2 ⟨x,rfl,hx,hw2⟩;have hb2:=hbw.trans (hw2.mono hbw.size))
          |(go_at_call 66;refine(HC1.out _ _ hb2 hx).mono ?_;clear HC1;rintro e W3 ⟨rfl,hw3⟩))
        go_roundw
        case rel=>exact⟨a,k-1,rfl,by congr 1;omega,by omega,by omega,HR2,hb2.trans (hw3.mono hb2.size)⟩
        case measure=>simp[intOf];omega
    · have e:a=n/m:=by have:=HR.out;omega
      have HE:=hid e;clear e;have hlti:¬(a:Int)<(b:Int):=by omega
      go_wp2;go_ret;refine⟨?_,hbw⟩
      show _=Ending.returned (.int .i64 ((n/m:Nat):Int))
      rw[←HE.out];rfl
set_option maxRecDepth 100000 in
set_option maxHeartbeats 2000000 in
theorem without_own(v:Value)(xs:List Nat)(w:World)(hv:GV w v xs)(hl:xs.length≤1000000):
    Calls Tryz.prog 98 #[v] w fun e w'=> ∃v',e=.returned v'∧RowI w' w.heap.size v' (trimD xs)∧Below w.heap.size w w':=by
  obtain⟨i0,hi,hz0,hz1,hz2⟩:=info_parts infoI;obtain⟨p,c,rfl,hpg⟩:=hv.slice;clear hv;go_enter Tryz.func98,Tryz.ntmps98;go_wp2_with fail;go_loop [0] (fun n=> ∃k:Nat,k≤xs.length∧n=.slice p k c∧RowKit.Hid (trimD xs=trimD (xs.take k))) (fun n=>sliceLen n)
  case atStart=>exact⟨xs.length,Nat.le_refl _,rfl,hid (by rw[List.take_length])⟩
  case round=>
    obtain⟨k,hk,rfl,HT⟩:=hrel
    by_cases hk0:k=0
    · subst hk0
      have HE:=hid (show trimD xs=[]from HT.out);go_wp2_with (at_builtin;go_loud (refine wpList_append_two rfl _ _ 44 43 rfl w.heap.size 3 3 i0 _ 8 Tryz.underlying44 Tryz.underlying43 hi hz0 hz1 hz2 rfl _ 0 [] rfl (row_empty w 3 _ (Nat.le_refl _)) p 0 c (([]:List Nat).map iCell) rfl (by simp;try omega) (.inl rfl) (all_i _) (by simp[maxLen];try omega) (by omega) (by simp) ?_;intro v' w2 hown hgr;have hb2:=((Below.refl w.heap.size w).alloc (Nat.le_refl _) _).grown hgr (by simp) (fun k' hk'=>by injection hk' with hk';subst hk';exact Nat.le_refl _)));go_ret;exact⟨_,rfl,by rw[HE.out];exact hown,hb2⟩
    · obtain⟨j,rfl⟩:∃j,k=j+1:=⟨k-1,by omega⟩
      have hj:j<xs.length:=by omega
      obtain⟨g,rfl,hg,hc1,hc2⟩:=hpg (fun e=>by subst e;simp at hj);have g0:=hg.at0 j hj;unfold iCell at g0;have hgt:(0:Int)<((j+1:Nat):Int):=by omega
      have hgl:=hg.lt
      by_cases hz:xs[j]=0
      · rw[hz]at g0
        have HZ:=hid (trim_take_zero hk hz);clear hz;go_wp2;go_round
        case rel=>exact⟨j,by omega,rfl,hid (HT.out.trans HZ.out)⟩
        case measure=>simp[sliceLen]
      · have hzi:(((xs[j]:Nat):Int)==0)=false:=by rw[beq_eq_false_iff_ne];omega
        have HE:=hid (HT.out.trans (trim_take_last hk hz));clear hz
        have hcell:∀t,∀i u,((xs.take (j+1)).map iCell)[i]?=some u→(w.alloc (.cells #[] t)).cell? ((⟨g,0,none⟩:Addr).add i)=some u:=by
          intro t i u hu;rw[add_at,((Below.refl w.heap.size w).alloc (Nat.le_refl _) _).cell (p:=⟨g,i,none⟩) hgl];obtain⟨hi',rfl⟩:=List.getElem?_eq_some_iff.1 hu;rw[List.length_map,List.length_take]at hi';rw[hg.at0 i (by omega)];simp
        go_wp2_with (at_builtin;go_loud (refine wpList_append_two rfl _ _ 44 43 rfl w.heap.size 3 3 i0 _ 8 Tryz.underlying44 Tryz.underlying43 hi hz0 hz1 hz2 rfl _ 0 [] rfl (row_empty w 3 _ (Nat.le_refl _)) (some ⟨g,0,none⟩) (j+1) c ((xs.take (j+1)).map iCell) rfl (by simp;try omega) (.inr ⟨_,rfl,hcell _⟩) (all_i _) (by simp[maxLen];try omega) (by omega) (by simp) ?_;intro v' w2 hown hgr;have hb2:=((Below.refl w.heap.size w).alloc (Nat.le_refl _) _).grown hgr (by simp) (fun k' hk'=>by injection hk' with hk';subst hk';exact Nat.le_refl _)));go_ret;refine⟨_,rfl,?_,hb2⟩;rw[HE.out];unfold RowI;rw[List.length_take,Nat.min_eq_left hk]
        simpa using hown
theorem RowI.far{W:World}{base G k:Nat}{v u:Value}{xs:List Nat}(h:RowI W base v xs)(hG:G<base):RowI (W.setCell ⟨G,k,none⟩ u) base v xs:=by
  refine⟨h.1,?_⟩
  rcases h.2 with h2|⟨g,cap,cur,e,hg,hb,r⟩
  · exact .inl h2
  · exact .inr ⟨g,cap,cur,e,hg,by rw[setCell_far _ (by omega)];exact hb,r⟩
theorem rdivmod_zero(v u:Value)(n:Nat)(w:World)(hv:RefV w v n)(hu:RefV w u 0):
    Calls Tryz.prog 94 #[v,u] w fun e w'=>e=.returned (.tuple #[.slice none 0 0,.slice none 0 0,.int .i64 10])∧Below w.heap.size w w':=by
  obtain⟨p,cp,rfl,_⟩:=GV.slice hv;obtain⟨q,cq,rfl,_⟩:=GV.slice hu;rw[digs_zero];clear hv hu;go_enter Tryz.func94,Tryz.ntmps94;go_wp2;exact bodyPost_ret (v:=.tuple #[.slice none 0 0,.slice none 0 0,.int .i64 10]) (by simp[results,Tryz.results94,go_sem]) rfl ⟨rfl,Below.refl _ _⟩
set_option maxRecDepth 100000 in
set_option maxHeartbeats 2000000 in
theorem rdivmod_64(v u:Value)(n m:Nat)(w:World)(hv:RefV w v n)(hu:RefV w u m)(hm:m≠0)(hn:n<18446744073709551616)(hm1:m<18446744073709551616):
    Calls Tryz.prog 94 #[v,u] w fun e w'=> ∃x y,e=.returned (.tuple #[x,y,.int .i64 0])∧RefV w' x (n/m)∧RefV w' y (n%m)∧Below w.heap.size w w':=by
  have l1:(digs B6 n).length≤4:=digs_len_le b6_2 _ _ (Nat.lt_trans hn (by decide));have l2:(digs B6 m).length≤4:=digs_len_le b6_2 _ _ (Nat.lt_trans hm1 (by decide));have HU:=hid (fun w1 (hb:Below w.heap.size w w1)=>ruint_any v n w1 (hv.below hb) (by omega));have HU':=hid (fun w1 (hb:Below w.heap.size w w1)=>ruint_any u m w1 (hu.below hb) (by omega));unfold u64V at HU HU';rw[if_pos hn,decide_eq_true hn]at HU;rw[if_pos hm1,decide_eq_true hm1]at HU'
  have hl:(((digs B6 m).length:Int)==0)=false:=by
    rw[beq_eq_false_iff_ne];intro e;exact hm ((digs_eq_nil b6_2).1 (List.eq_nil_of_length_eq_zero (by omega)))
  obtain⟨p,cp,rfl,_⟩:=GV.slice hv;obtain⟨q,cq,rfl,_⟩:=GV.slice hu;have HO1:=hid (fun w1=>rof_any (n/m) w1 (Nat.lt_of_le_of_lt (Nat.div_le_self _ _) hn));have HO2:=hid (fun w1=>rof_any (n%m) w1 (by have:=Nat.mod_lt n (Nat.pos_of_ne_zero hm);omega))
  have hq1:(n:Int)/(m:Int)<18446744073709551616:=by
    have e:(n:Int)/(m:Int)=((n/m:Nat):Int):=rfl;have:=Nat.div_le_self n m;rw[e];omega
  have hq2:0≤(n:Int)/(m:Int):=Int.natCast_nonneg (n/m)
  have hr1:(n:Int)%(m:Int)<18446744073709551616:=by
    have e:(n:Int)%(m:Int)=((n%m:Nat):Int):=rfl;have:=Nat.mod_le n m;rw[e];omega
  have hr2:0≤(n:Int)%(m:Int):=Int.natCast_nonneg (n%m);have hmi:¬m=0:=hm;clear hv hu l1 l2;go_enter Tryz.func94,Tryz.ntmps94;go_upto_region 4 with(go_at_call 128;refine(HU.out _ (Below.refl _ _)).mono ?_;clear HU;rintro e W1 ⟨rfl,hw1⟩);go_upto_region 6 with(go_at_call 128;refine(HU'.out _ hw1).mono ?_;clear HU';rintro e W2 ⟨rfl,hw2⟩;have hb2:=hw1.trans (hw2.mono hw1.size));refine wp_region_float (W2) [] [0,0,0,2,0,0,0,2,0,0,0] (by kernel_rfl) (by kernel_rfl) (by kernel_rfl) (by kernel_rfl) (KS.drew (KS.start W2)) ?_;apply lxF0 (wants0 rfl);(· intro w' h0;have hw':=h0.old;go_simp;(try go_bits);exact⟨rfl,rfl⟩);simp only[Act.put,List.setIfInBounds_toArray,List.set_cons_zero,List.set_cons_succ];apply lxF0 (wants0 rfl);(· intro w' h0;have hw':=h0.old;go_simp;(try go_bits);exact⟨rfl,rfl⟩);simp only[Act.put,List.setIfInBounds_toArray,List.set_cons_zero,List.set_cons_succ];apply lxF0 (wants0 rfl);(· intro w' h0;have hw':=h0.old;go_simp;(try go_bits);exact⟨rfl,rfl⟩);simp only[Act.put,List.setIfInBounds_toArray,List.set_cons_zero,List.set_cons_succ];apply lxE0 (α:=Value) (fun vv=>vv) (fun vv=>[fun w=>RefV w vv (n/m)]) (wants0 rfl)
  · intro w' h0 hK;go_simp;(try go_bits);refine(HO1.out w').mono ?_;rintro e w5 ⟨x,rfl,hx,hb⟩;exact⟨_,rfl,hb,fun w6 h6=>hx.below h6⟩
  intro v34;simp only[Act.put,List.setIfInBounds_toArray,List.set_cons_zero,List.set_cons_succ];apply lxF0 (wants0 rfl);(· intro w' h0;have hw':=h0.old;go_simp;(try go_bits);exact⟨rfl,rfl⟩);simp only[Act.put,List.setIfInBounds_toArray,List.set_cons_zero,List.set_cons_succ];apply lxF0 (wants0 rfl);(· intro w' h0;have hw':=h0.old;go_simp;(try go_bits);exact⟨rfl,rfl⟩);simp only[Act.put,List.setIfInBounds_toArray,List.set_cons_zero,List.set_cons_succ];apply lxF0 (wants0 rfl);(· intro w' h0;have hw':=h0.old;go_simp;(try go_bits);exact⟨rfl,rfl⟩);simp only[Act.put,List.setIfInBounds_toArray,List.set_cons_zero,List.set_cons_succ];apply lxE0 (α:=Value) (fun vv=>vv) (fun vv=>[fun w=>RefV w vv (n%m)]) (wants0 rfl)
  · intro w' h0 hK;go_simp;(try go_bits);refine(HO2.out w').mono ?_;rintro e w5 ⟨x,rfl,hx,hb⟩;exact⟨_,rfl,hb,fun w6 h6=>hx.below h6⟩
  intro v38;simp only[Act.put,List.setIfInBounds_toArray,List.set_cons_zero,List.set_cons_succ];apply lxF0 (wants0 rfl);(· intro w' h0;have hw':=h0.old;go_simp;(try go_bits);exact⟨rfl,rfl⟩);simp only[Act.put,List.setIfInBounds_toArray,List.set_cons_zero,List.set_cons_succ];apply lxF0 (wants0 rfl);(· intro w' h0;have hw':=h0.old;go_simp;(try go_bits);exact⟨rfl,rfl⟩);simp only[Act.put,List.setIfInBounds_toArray,List.set_cons_zero,List.set_cons_succ];apply lxF0 (wants0 rfl);(· intro w' h0;have hw':=h0.old;go_simp;(try go_bits);exact⟨rfl,rfl⟩);simp only[Act.put,List.setIfInBounds_toArray,List.set_cons_zero,List.set_cons_succ];refine lxEnd (fun W9 hK9=>?_);go_wp2;exact bodyPost_ret (v:=.tuple #[v34,v38,.int .i64 0]) (by simp[results,Tryz.results94,go_sem]) rfl ⟨_,_,rfl,hK9.get (F:=fun w=>RefV w v34 (n/m)) (by repeat (first|exact List.mem_cons_self ..|apply List.mem_cons_of_mem)),hK9.get (F:=fun w=>RefV w v38 (n%m)) (by repeat (first|exact List.mem_cons_self ..|apply List.mem_cons_of_mem)),hb2.trans (hK9.old.mono hb2.size)⟩
theorem row_one(W:World)(t:TypeId)(x:Value)(base:Nat)(hb:base≤W.heap.size):(W.alloc (.cells #[x] t)).ownsRow base t 1 (.slice (some ⟨W.heap.size,0,none⟩) 1 1) 1 [x]:=
  ⟨rfl,.inr ⟨W.heap.size,1,#[x],rfl,hb,heap_new W _,Nat.le_refl _,by unfold maxLen;omega,rfl,rfl⟩⟩
structure RDivAt(w:World)(G:Nat)(xs:List Nat)(m k r:Nat)(rv:Value)(wr:World):Prop where
  q:∃qs,ArrI wr G qs∧qs.length=xs.length∧(∀q∈qs,q<B6)∧val B6 (qs.drop k)=val B6 (xs.drop k)/m
  rest:RefV wr rv r
  rem:r=val B6 (xs.drop k)%m
  old:Below w.heap.size w wr
  gb:w.heap.size≤G
theorem div_group{x D m:Nat}(hm:0<m):(x+B6*D)/m=(x+B6*(D%m))/m+B6*(D/m)∧(x+B6*D)%m=(x+B6*(D%m))%m:=by
  have h:=Nat.div_add_mod D m
  have e:x+B6*D=(x+B6*(D%m))+m*(B6*(D/m)):=by
    conv=>lhs;rw[←h]
    rw[Nat.mul_add,show B6*(m*(D/m))=m*(B6*(D/m)) by ac_rfl];omega
  exact⟨by rw[e,Nat.add_mul_div_left _ _ hm],by rw[e,Nat.add_mul_mod_self_left]⟩
set_option maxRecDepth 100000 in
set_option maxHeartbeats 4000000 in
theorem rdivmod_big(v u:Value)(n m:Nat)(w:World)(hv:RefV w v n)(hu:RefV w u m)(hm:m≠0)(hbig:¬(n<18446744073709551616∧m<18446744073709551616))(l1:(digs B6 n).length≤50000)(l2:(digs B6 m).length≤50000):
    Calls Tryz.prog 94 #[v,u] w fun e w'=> ∃x y,e=.returned (.tuple #[x,y,.int .i64 0])∧RefV w' x (n/m)∧RefV w' y (n%m)∧Below w.heap.size w w':=by
  obtain⟨i0,hi,hz0,hz1,hz2⟩:=info_parts infoI;have HU:=hid (fun w1 (hb:Below w.heap.size w w1)=>ruint_any v n w1 (hv.below hb) (by omega));have HU':=hid (fun w1 (hb:Below w.heap.size w w1)=>ruint_any u m w1 (hu.below hb) (by omega));unfold u64V at HU HU'
  have hl:(((digs B6 m).length:Int)==0)=false:=by
    rw[beq_eq_false_iff_ne];intro e;exact hm ((digs_eq_nil b6_2).1 (List.eq_nil_of_length_eq_zero (by omega)))
  have HM:=hid (Nat.pos_of_ne_zero hm)
  have HFT:=hid (fun(x:Value) (t:Nat) w1 (hb:Below w.heap.size w w1) (hx:RefV w1 x t) (ht:t<B6*m)=>fits_any x u t m w1 hx (hu.below hb) HM.out ht (by
    have h3:=val_lt b6_2 (digs_lt b6_2 m);rw[val_digs b6_2]at h3
    have h4:t<B6^((digs B6 m).length+1):=by
      rw[Nat.pow_succ,Nat.mul_comm];exact Nat.lt_of_lt_of_le ht (Nat.mul_le_mul_left _ (Nat.le_of_lt h3))
    have:=digs_len_le b6_2 _ _ h4;omega) (by omega))
  have HTM:=hid (fun(k:Nat) (hk:k<1000000) w1 (hb:Below w.heap.size w w1)=>times_any u m k w1 (hu.below hb) (by omega) (by omega))
  have HSB:=hid (fun(x y:Value) (t k:Nat) w1 (hx:RefV w1 x t) (hy:RefV w1 y (m*k)) (ht:t<B6*m) (hle:m*k≤t)=>rsub_ok x y t (m*k) w1 hx hy (by
    have h3:=val_lt b6_2 (digs_lt b6_2 m);rw[val_digs b6_2]at h3
    have h4:t<B6^((digs B6 m).length+1):=by
      rw[Nat.pow_succ,Nat.mul_comm];exact Nat.lt_of_lt_of_le ht (Nat.mul_le_mul_left _ (Nat.le_of_lt h3))
    have:=digs_len_le b6_2 _ _ h4;omega) (by
    have h3:=val_lt b6_2 (digs_lt b6_2 m);rw[val_digs b6_2]at h3
    have h4:t<B6^((digs B6 m).length+1):=by
      rw[Nat.pow_succ,Nat.mul_comm];exact Nat.lt_of_lt_of_le ht (Nat.mul_le_mul_left _ (Nat.le_of_lt h3))
    have:=digs_len_le b6_2 _ _ (Nat.lt_of_le_of_lt hle h4);omega) hle)
  obtain⟨p,cp,rfl,hpg⟩:=GV.slice hv;obtain⟨q,cq,rfl,_⟩:=GV.slice hu;have HPG:=hid hpg;have HXB:=hid (digs_lt b6_2 n);have HVN:=hid (val_digs b6_2 n);obtain⟨xs,hxs⟩:∃xs,digs B6 n=xs:=⟨_,rfl⟩;rw[hxs]at HPG HXB HVN l1 HU⊢;obtain⟨n64,hn64⟩:∃n64:Int,(if n<18446744073709551616 then(n:Int)else 0)=n64:=⟨_,rfl⟩;obtain⟨m64,hm64⟩:∃m64:Int,(if m<18446744073709551616 then(m:Int)else 0)=m64:=⟨_,rfl⟩;rw[hn64]at HU;rw[hm64]at HU';obtain⟨lm,hlm⟩:∃lm,(digs B6 m).length=lm:=⟨_,rfl⟩;rw[hlm]at HU' hl l2 HFT HTM⊢;have HLM:=hid hlm;clear hv hu hpg hxs hn64 hm64 hlm hm;go_enter Tryz.func94,Tryz.ntmps94;go_upto_region 4 with(go_at_call 128;refine(HU.out _ (Below.refl _ _)).mono ?_;clear HU;rintro e W1 ⟨rfl,hw1⟩);go_upto_region 5 with(go_at_call 128;refine(HU'.out _ hw1).mono ?_;clear HU';rintro e W2 ⟨rfl,hw2⟩;have hb2:=hw1.trans (hw2.mono hw1.size))
  by_cases hn:n<18446744073709551616
  · have hm1:¬m<18446744073709551616:=fun h=>hbig ⟨hn,h⟩
    rw[decide_eq_true hn,decide_eq_false hm1];clear hn hm1 hbig;go_upto_region 8 with(at_make;go_loud (refine wpList_make_full _ rfl _ _ _ rfl W2.heap.size 3 i0 _ 1 Tryz.underlying43 hi hz0 hz1 _ _ _ _ xs.length rfl rfl (by simp) (by simp) (by rw[hz2];omega) (by unfold maxLen;omega) (Nat.le_refl _) ?_;intro w3 hown hgr;have hb3:Below W2.heap.size W2 w3:=(Below.refl _ W2).grown hgr (Nat.le_refl _) (by simp);have hA:=ari_made hown;clear hown hgr));have hb4:=hb2.trans (hb3.mono hb2.size);have hs3:W2.heap.size<w3.heap.size:=hA.lt
    obtain⟨W4,hW4,hat0⟩:∃W4,W4=w3.alloc (.cells #[] 3)∧RDivAt w W2.heap.size xs m xs.length 0 (.slice (some ⟨w3.heap.size,0,none⟩) 0 0) W4:=by
      refine⟨_,rfl,⟨_,hA.below ((Below.refl _ _).alloc (Nat.le_refl _) _),by simp,fun y hy=>by rw[List.eq_of_mem_replicate hy];decide,by simp[val]⟩,RefV.nil w3 3,by rw[List.drop_length];simp[val],hb4.alloc hb4.size _,hb2.size⟩
    clear hA hb3 hb4 hs3;go_upto_region 9 with(fail);rw[←hW4];clear hW4;generalize W2.heap.size=G at hat0⊢;generalize w3.heap.size=E0 at hat0⊢;go_wp2_with fail;go_loopw [12,13] (fun rv iv wr=> ∃k r:Nat,k≤xs.length∧iv=.int .i64 ((k:Int)-1)∧RDivAt w G xs m k r rv wr) (fun _ iv _=>(intOf iv+1).toNat)
    case atStart=>exact⟨xs.length,0,Nat.le_refl _,rfl,hat0⟩
    case round=>
      clear hat0;obtain⟨k,r,hk,rfl,hat⟩:=hrel;generalize wr=W5 at hat⊢;generalize u12=rv at hat⊢;obtain⟨qs,harr,hql,hqb,hqv⟩:=hat.q;have hold:=hat.old;have hgb:=hat.gb
      by_cases hk0:k=0
      · subst hk0
        rw[List.drop_zero,List.drop_zero,HVN.out]at hqv;have hrem:=hat.rem;rw[List.drop_zero,HVN.out]at hrem;have hrest:=hat.rest;subst hrem;have HT:=hid (without_any _ qs W5 (harr.gv (by unfold maxLen;omega)) (by omega));rw[hql, ←digs_val b6_2 hqb,hqv]at HT;clear hat harr hqv;go_wp2_with (go_at_call 98;refine HT.out.mono ?_;clear HT;rintro e w6 ⟨x,rfl,hx,hw6⟩);exact bodyPost_ret (v:=.tuple #[x,rv,.int .i64 0]) (by simp[results,Tryz.results94,go_sem]) rfl ⟨_,_,rfl,hx,hrest.below hw6,hold.trans (hw6.mono hold.size)⟩
      · obtain⟨j,rfl⟩:∃j,k=j+1:=⟨k-1,by omega⟩
        have hj:j<xs.length:=by omega
        have ei:(((j+1:Nat):Int)-1)=(j:Int):=by omega
        rw[ei];clear ei;obtain⟨g,rfl,hg,_,_⟩:=HPG.out (fun e=>by subst e;simp at hj);have g0:=(hg.below hold).at0 j hj;unfold iCell at g0;have hgl:=Nat.lt_of_lt_of_le hg.lt hold.size;have q0:0≤(j:Int):=by omega
        have hx1:=HXB.out _ (List.getElem_mem hj);obtain⟨x,hx⟩:∃x,xs[j]=x:=⟨_,rfl⟩;have hvd:=val_drop (B:=B6) hj;rw[hx]at g0 hx1 hvd;obtain⟨d1,d2⟩:=div_group (x:=x) (D:=val B6 (xs.drop (j+1))) HM.out;rw[←hvd, ←hat.rem]at d1 d2;have hrm:r<m:=by rw[hat.rem];exact Nat.mod_lt _ HM.out
        have htl:x+B6*r<B6*m:=by
          have:B6*(r+1)≤B6*m:=Nat.mul_le_mul_left _ hrm;rw[Nat.mul_add]at this;omega
        obtain⟨rp,rc,rfl,hrg⟩:=GV.slice hat.rest;have hrl:(digs B6 r).length≤50000:=digs6_mono (Nat.le_of_lt hrm) (by rw[HLM.out];exact l2)
        have HDW:=hid (show trimD (x::digs B6 r)=digs B6 (x+B6*r) by
          rw[←digs_val b6_2 (l:=x::digs B6 r) (fun d hd=>by
            rcases List.mem_cons.1 hd with h|h
            · rw[h];exact hx1
            · exact digs_lt b6_2 r d h)]
          show digs B6 (x+B6*val B6 (digs B6 r))=_
          rw[val_digs b6_2])
        obtain⟨t,ht⟩:∃t,x+B6*r=t:=⟨_,rfl⟩;rw[ht]at d1 d2 htl HDW
        have hsrc:∀(W:World),Below W5.heap.size W5 W→(digs B6 r).length=0∨ ∃ad,rp=some ad∧ ∀i u,((digs B6 r).map iCell)[i]?=some u→W.cell? (ad.add i)=some u:=fun W hb=>by
          by_cases h0:digs B6 r=[]
          · exact .inl (by rw[h0];rfl)
          · obtain⟨g',rfl,hg',_,_⟩:=hrg h0
            refine .inr ⟨_,rfl,fun i u hu=>?_⟩;obtain⟨hi',rfl⟩:=List.getElem?_eq_some_iff.1 hu;rw[add_at,List.getElem_map];exact(hg'.below hb).at0 i (by simpa using hi')
        have HSRC:=hid hsrc;have HARR:=hid harr;have HQV:=hid (show val B6 ((qs.set j (t/m)).drop j)=val B6 (xs.drop j)/m by rw[val_drop_set (by omega),d1,hqv]);have HRM:=hid (show t-m*(t/m)=val B6 (xs.drop j)%m by rw[d2];have:=Nat.div_add_mod t m;omega);have HQB:=hid (show ∀q∈qs.set j (t/m),q<B6 from all_set hqb (by rw[Nat.div_lt_iff_lt_mul HM.out];exact htl));have HMT:=hid (show m*(t/m)≤t from Nat.mul_div_le t m);have HTL:=hid htl;have htq:t/m<1000000:=by rw[Nat.div_lt_iff_lt_mul HM.out];exact htl
        have hx6:x≤1000000:=by rw[b6]at hx1;omega
        clear hat harr hsrc hrg hqv hqb hvd d1 d2 hx ht hrm htl hx1;obtain⟨lr,hlr⟩:∃lr,(digs B6 r).length=lr:=⟨_,rfl⟩;have HLR:=hid hlr;rw[hlr]at HSRC hrl⊢;clear hlr;obtain⟨ql,hqle⟩:∃ql,t/m=ql:=⟨_,rfl⟩;rw[hqle]at HQV HRM HQB HMT htq;have HQE:=hid hqle;clear hqle
        go_upto_region 13 with(first
          |(at_builtin;go_loud (refine wpList_append_two rfl _ _ 43 44 rfl w.heap.size 3 3 i0 _ 8 Tryz.underlying43 Tryz.underlying44 hi hz0 hz1 hz2 rfl _ 1 [iCell x] rfl (row_one W5 3 _ _ hold.size) rp lr rc ((digs B6 r).map iCell) rfl (by rw[List.length_map];exact HLR.out) (HSRC.out _ ((Below.refl _ _).alloc (Nat.le_refl _) _)) (all_i _) (by simp[maxLen];omega) (by omega) (by have:=hold.size;simp;omega) ?_;intro v7 w7 hown hgr;have hb7:=(hold.alloc hold.size _).grown hgr (by have:=hold.size;simp;omega) (fun k' hk'=>by injection hk' with hk';subst hk';exact hold.size);have hb57:Below W5.heap.size W5 w7:=((Below.refl W5.heap.size W5).alloc (Nat.le_refl _) _).grown hgr (by simp) (fun k' hk'=>by injection hk' with hk';subst hk';exact Nat.le_refl _);have HW:=hid (without_own v7 (x::digs B6 r) w7 (RowI.gv (base:=w.heap.size) (by unfold RowI;rw[List.length_cons,HLR.out,Nat.add_comm lr 1];simpa using hown)) (by rw[List.length_cons,HLR.out];omega));clear hown hgr))
          |(go_at_call 98;refine HW.out.mono ?_;clear HW;rintro e W8 ⟨rv2,rfl,hrow8,hw8⟩;rw[HDW.out]at hrow8;have hrv:RefV W8 rv2 t:=hrow8.gv;have hGb:=Nat.lt_of_lt_of_le HARR.out.lt hb57.size;have hb8:=hb7.trans (hw8.mono hb7.size);have hb58:=hb57.trans (hw8.mono hb57.size)))
        have HFT1:=hid (HFT.out rv2 t W8 hb8 hrv HTL.out);rw[HQE.out]at HFT1;have hA8:=HARR.out.below hb58;have hGl:=hA8.lt;have c0:=hA8.cell j (by omega);have hfr:=hA8.free;clear hb7 hb57 hw8;go_upto_region 14 with(go_at_call 129;refine HFT1.out.mono ?_;clear HFT1;rintro e W9 ⟨rfl,hw9⟩;have hb9:=hb8.trans (hw9.mono hb8.size);have hA9:=hA8.below hw9;have hrow9:=RowI.below hrow8 hw9;have hGl9:=hA9.lt;have c9:=hA9.cell j (by omega);have hfr9:=hA9.free)
        obtain⟨W10,hW10,hA10,hb10,hrv10⟩:∃W10,W10=W9.setCell ⟨G,j,none⟩ (.int .i64 (ql:Int))∧ArrI W10 G (qs.set j ql)∧Below w.heap.size w W10∧RefV W10 rv2 t:=by
          refine⟨_,rfl,hA9.store j ql,hb9.setCell (p:=⟨G,j,none⟩) hgb _,?_⟩;exact(hrow9.far hGb).gv
        rw[←hW10];clear hW10 hA8 hA9 hrow8 hrow9 c0 c9 hfr hfr9 hGl hGl9 hGb;have c10:=hA10.cell j (by rw[List.length_set];omega);rw[List.getElem_set_self]at c10;have hGl10:=hA10.lt;have HTM1:=hid (HTM.out ql htq W10 hb10);have HSB1:=hid (fun(y:Value) w1 (hb:Below W10.heap.size W10 w1) (hy:RefV w1 y (m*ql))=>HSB.out rv2 y t ql w1 (hrv10.below hb) hy HTL.out HMT.out)
        go_wp2_with (first
          |(go_at_call 130;refine HTM1.out.mono ?_;clear HTM1;rintro e W11 ⟨y,rfl,hy,hw11⟩)
          |(go_at_call 67;refine(HSB1.out y _ hw11 hy).mono ?_;clear HSB1;rintro e W12 ⟨rv3,rfl,hrv3,hw12⟩;have hb12:=hw11.trans (hw12.mono hw11.size)))
        go_roundw
        case rel=>exact⟨j,t-m*ql,by omega,by go_num,⟨_,hA10.below hb12,by rw[List.length_set];exact hql,HQB.out,HQV.out⟩,hrv3,HRM.out,hb10.trans (hb12.mono hb10.size),hgb⟩
        case measure=>simp[intOf]
  · rw[decide_eq_false hn]
    clear hn hbig;go_upto_region 8 with(at_make;go_loud (refine wpList_make_full _ rfl _ _ _ rfl W2.heap.size 3 i0 _ 1 Tryz.underlying43 hi hz0 hz1 _ _ _ _ xs.length rfl rfl (by simp) (by simp) (by rw[hz2];omega) (by unfold maxLen;omega) (Nat.le_refl _) ?_;intro w3 hown hgr;have hb3:Below W2.heap.size W2 w3:=(Below.refl _ W2).grown hgr (Nat.le_refl _) (by simp);have hA:=ari_made hown;clear hown hgr));have hb4:=hb2.trans (hb3.mono hb2.size);have hs3:W2.heap.size<w3.heap.size:=hA.lt
    obtain⟨W4,hW4,hat0⟩:∃W4,W4=w3.alloc (.cells #[] 3)∧RDivAt w W2.heap.size xs m xs.length 0 (.slice (some ⟨w3.heap.size,0,none⟩) 0 0) W4:=by
      refine⟨_,rfl,⟨_,hA.below ((Below.refl _ _).alloc (Nat.le_refl _) _),by simp,fun y hy=>by rw[List.eq_of_mem_replicate hy];decide,by simp[val]⟩,RefV.nil w3 3,by rw[List.drop_length];simp[val],hb4.alloc hb4.size _,hb2.size⟩
    clear hA hb3 hb4 hs3;go_upto_region 9 with(fail);rw[←hW4];clear hW4;generalize W2.heap.size=G at hat0⊢;generalize w3.heap.size=E0 at hat0⊢;go_wp2_with fail;go_loopw [12,13] (fun rv iv wr=> ∃k r:Nat,k≤xs.length∧iv=.int .i64 ((k:Int)-1)∧RDivAt w G xs m k r rv wr) (fun _ iv _=>(intOf iv+1).toNat)
    case atStart=>exact⟨xs.length,0,Nat.le_refl _,rfl,hat0⟩
    case round=>
      clear hat0;obtain⟨k,r,hk,rfl,hat⟩:=hrel;generalize wr=W5 at hat⊢;generalize u12=rv at hat⊢;obtain⟨qs,harr,hql,hqb,hqv⟩:=hat.q;have hold:=hat.old;have hgb:=hat.gb
      by_cases hk0:k=0
      · subst hk0
        rw[List.drop_zero,List.drop_zero,HVN.out]at hqv;have hrem:=hat.rem;rw[List.drop_zero,HVN.out]at hrem;have hrest:=hat.rest;subst hrem;have HT:=hid (without_any _ qs W5 (harr.gv (by unfold maxLen;omega)) (by omega));rw[hql, ←digs_val b6_2 hqb,hqv]at HT;clear hat harr hqv;go_wp2_with (go_at_call 98;refine HT.out.mono ?_;clear HT;rintro e w6 ⟨x,rfl,hx,hw6⟩);exact bodyPost_ret (v:=.tuple #[x,rv,.int .i64 0]) (by simp[results,Tryz.results94,go_sem]) rfl ⟨_,_,rfl,hx,hrest.below hw6,hold.trans (hw6.mono hold.size)⟩
      · obtain⟨j,rfl⟩:∃j,k=j+1:=⟨k-1,by omega⟩
        have hj:j<xs.length:=by omega
        have ei:(((j+1:Nat):Int)-1)=(j:Int):=by omega
        rw[ei];clear ei;obtain⟨g,rfl,hg,_,_⟩:=HPG.out (fun e=>by subst e;simp at hj);have g0:=(hg.below hold).at0 j hj;unfold iCell at g0;have hgl:=Nat.lt_of_lt_of_le hg.lt hold.size;have q0:0≤(j:Int):=by omega
        have hx1:=HXB.out _ (List.getElem_mem hj);obtain⟨x,hx⟩:∃x,xs[j]=x:=⟨_,rfl⟩;have hvd:=val_drop (B:=B6) hj;rw[hx]at g0 hx1 hvd;obtain⟨d1,d2⟩:=div_group (x:=x) (D:=val B6 (xs.drop (j+1))) HM.out;rw[←hvd, ←hat.rem]at d1 d2;have hrm:r<m:=by rw[hat.rem];exact Nat.mod_lt _ HM.out
        have htl:x+B6*r<B6*m:=by
          have:B6*(r+1)≤B6*m:=Nat.mul_le_mul_left _ hrm;rw[Nat.mul_add]at this;omega
        obtain⟨rp,rc,rfl,hrg⟩:=GV.slice hat.rest;have hrl:(digs B6 r).length≤50000:=digs6_mono (Nat.le_of_lt hrm) (by rw[HLM.out];exact l2)
        have HDW:=hid (show trimD (x::digs B6 r)=digs B6 (x+B6*r) by
          rw[←digs_val b6_2 (l:=x::digs B6 r) (fun d hd=>by
            rcases List.mem_cons.1 hd with h|h
            · rw[h];exact hx1
            · exact digs_lt b6_2 r d h)]
          show digs B6 (x+B6*val B6 (digs B6 r))=_
          rw[val_digs b6_2])
        obtain⟨t,ht⟩:∃t,x+B6*r=t:=⟨_,rfl⟩;rw[ht]at d1 d2 htl HDW
        have hsrc:∀(W:World),Below W5.heap.size W5 W→(digs B6 r).length=0∨ ∃ad,rp=some ad∧ ∀i u,((digs B6 r).map iCell)[i]?=some u→W.cell? (ad.add i)=some u:=fun W hb=>by
          by_cases h0:digs B6 r=[]
          · exact .inl (by rw[h0];rfl)
          · obtain⟨g',rfl,hg',_,_⟩:=hrg h0
            refine .inr ⟨_,rfl,fun i u hu=>?_⟩;obtain⟨hi',rfl⟩:=List.getElem?_eq_some_iff.1 hu;rw[add_at,List.getElem_map];exact(hg'.below hb).at0 i (by simpa using hi')
        have HSRC:=hid hsrc;have HARR:=hid harr;have HQV:=hid (show val B6 ((qs.set j (t/m)).drop j)=val B6 (xs.drop j)/m by rw[val_drop_set (by omega),d1,hqv]);have HRM:=hid (show t-m*(t/m)=val B6 (xs.drop j)%m by rw[d2];have:=Nat.div_add_mod t m;omega);have HQB:=hid (show ∀q∈qs.set j (t/m),q<B6 from all_set hqb (by rw[Nat.div_lt_iff_lt_mul HM.out];exact htl));have HMT:=hid (show m*(t/m)≤t from Nat.mul_div_le t m);have HTL:=hid htl;have htq:t/m<1000000:=by rw[Nat.div_lt_iff_lt_mul HM.out];exact htl
        have hx6:x≤1000000:=by rw[b6]at hx1;omega
        clear hat harr hsrc hrg hqv hqb hvd d1 d2 hx ht hrm htl hx1;obtain⟨lr,hlr⟩:∃lr,(digs B6 r).length=lr:=⟨_,rfl⟩;have HLR:=hid hlr;rw[hlr]at HSRC hrl⊢;clear hlr;obtain⟨ql,hqle⟩:∃ql,t/m=ql:=⟨_,rfl⟩;rw[hqle]at HQV HRM HQB HMT htq;have HQE:=hid hqle;clear hqle
        go_upto_region 13 with(first
          |(at_builtin;go_loud (refine wpList_append_two rfl _ _ 43 44 rfl w.heap.size 3 3 i0 _ 8 Tryz.underlying43 Tryz.underlying44 hi hz0 hz1 hz2 rfl _ 1 [iCell x] rfl (row_one W5 3 _ _ hold.size) rp lr rc ((digs B6 r).map iCell) rfl (by rw[List.length_map];exact HLR.out) (HSRC.out _ ((Below.refl _ _).alloc (Nat.le_refl _) _)) (all_i _) (by simp[maxLen];omega) (by omega) (by have:=hold.size;simp;omega) ?_;intro v7 w7 hown hgr;have hb7:=(hold.alloc hold.size _).grown hgr (by have:=hold.size;simp;omega) (fun k' hk'=>by injection hk' with hk';subst hk';exact hold.size);have hb57:Below W5.heap.size W5 w7:=((Below.refl W5.heap.size W5).alloc (Nat.le_refl _) _).grown hgr (by simp) (fun k' hk'=>by injection hk' with hk';subst hk';exact Nat.le_refl _);have HW:=hid (without_own v7 (x::digs B6 r) w7 (RowI.gv (base:=w.heap.size) (by unfold RowI;rw[List.length_cons,HLR.out,Nat.add_comm lr 1];simpa using hown)) (by rw[List.length_cons,HLR.out];omega));clear hown hgr))
          |(go_at_call 98;refine HW.out.mono ?_;clear HW;rintro e W8 ⟨rv2,rfl,hrow8,hw8⟩;rw[HDW.out]at hrow8;have hrv:RefV W8 rv2 t:=hrow8.gv;have hGb:=Nat.lt_of_lt_of_le HARR.out.lt hb57.size;have hb8:=hb7.trans (hw8.mono hb7.size);have hb58:=hb57.trans (hw8.mono hb57.size)))
        have HFT1:=hid (HFT.out rv2 t W8 hb8 hrv HTL.out);rw[HQE.out]at HFT1;have hA8:=HARR.out.below hb58;have hGl:=hA8.lt;have c0:=hA8.cell j (by omega);have hfr:=hA8.free;clear hb7 hb57 hw8;go_upto_region 14 with(go_at_call 129;refine HFT1.out.mono ?_;clear HFT1;rintro e W9 ⟨rfl,hw9⟩;have hb9:=hb8.trans (hw9.mono hb8.size);have hA9:=hA8.below hw9;have hrow9:=RowI.below hrow8 hw9;have hGl9:=hA9.lt;have c9:=hA9.cell j (by omega);have hfr9:=hA9.free)
        obtain⟨W10,hW10,hA10,hb10,hrv10⟩:∃W10,W10=W9.setCell ⟨G,j,none⟩ (.int .i64 (ql:Int))∧ArrI W10 G (qs.set j ql)∧Below w.heap.size w W10∧RefV W10 rv2 t:=by
          refine⟨_,rfl,hA9.store j ql,hb9.setCell (p:=⟨G,j,none⟩) hgb _,?_⟩;exact(hrow9.far hGb).gv
        rw[←hW10];clear hW10 hA8 hA9 hrow8 hrow9 c0 c9 hfr hfr9 hGl hGl9 hGb;have c10:=hA10.cell j (by rw[List.length_set];omega);rw[List.getElem_set_self]at c10;have hGl10:=hA10.lt;have HTM1:=hid (HTM.out ql htq W10 hb10);have HSB1:=hid (fun(y:Value) w1 (hb:Below W10.heap.size W10 w1) (hy:RefV w1 y (m*ql))=>HSB.out rv2 y t ql w1 (hrv10.below hb) hy HTL.out HMT.out)
        go_wp2_with (first
          |(go_at_call 130;refine HTM1.out.mono ?_;clear HTM1;rintro e W11 ⟨y,rfl,hy,hw11⟩)
          |(go_at_call 67;refine(HSB1.out y _ hw11 hy).mono ?_;clear HSB1;rintro e W12 ⟨rv3,rfl,hrv3,hw12⟩;have hb12:=hw11.trans (hw12.mono hw11.size)))
        go_roundw
        case rel=>exact⟨j,t-m*ql,by omega,by go_num,⟨_,hA10.below hb12,by rw[List.length_set];exact hql,HQB.out,HQV.out⟩,hrv3,HRM.out,hb10.trans (hb12.mono hb10.size),hgb⟩
        case measure=>simp[intOf]
theorem rdivmod_any(v u:Value)(n m:Nat)(w:World)(hv:RefV w v n)(hu:RefV w u m)(hm:m≠0)(l1:(digs B6 n).length≤50000)(l2:(digs B6 m).length≤50000):
    Calls Tryz.prog 94 #[v,u] w fun e w'=> ∃x y,e=.returned (.tuple #[x,y,.int .i64 0])∧RefV w' x (n/m)∧RefV w' y (n%m)∧Below w.heap.size w w':=by
  by_cases h:n<18446744073709551616∧m<18446744073709551616
  · exact rdivmod_64 v u n m w hv hu hm h.1 h.2
  · exact rdivmod_big v u n m w hv hu hm h l1 l2
set_option maxHeartbeats 1000000 in
theorem rgcd_any:∀(m n:Nat) (v u:Value) (w:World),RefV w v n→RefV w u m→(digs B6 n).length≤50000→(digs B6 m).length≤50000→
    Calls Tryz.prog 93 #[v,u] w fun e w'=> ∃x,e=.returned x∧RefV w' x (Nat.gcd n m)∧Below w.heap.size w w':=by
  intro m
  induction m using Nat.strongRecOn with
  | ind m ih=>
    intro n v u w hv hu l1 l2;obtain⟨q,cq,rfl,_⟩:=GV.slice hu
    by_cases hm:m=0
    · subst hm
      rw[Nat.gcd_zero_right,digs_zero];have HV:=hid hv;clear hv hu;go_enter Tryz.func93,Tryz.ntmps93;go_wp2;go_ret;exact⟨_,rfl,HV.out,Below.refl _ _⟩
    · have hl:(((digs B6 m).length:Int)==0)=false:=by
        rw[beq_eq_false_iff_ne];intro e;exact hm ((digs_eq_nil b6_2).1 (List.eq_nil_of_length_eq_zero (by omega)))
      have HD:=hid (rdivmod_any v _ n m w hv hu hm l1 l2);have hlt:=Nat.mod_lt n (Nat.pos_of_ne_zero hm);have HI:=hid (fun(x:Value) (w1:World) (hb:Below w.heap.size w w1) (h:RefV w1 x (n%m))=>ih (n%m) hlt m _ x w1 (hu.below hb) h l2 (digs6_mono (Nat.le_of_lt hlt) l2));have HG:=hid (show Nat.gcd m (n%m)=Nat.gcd n m from gcd_step n m);obtain⟨lm,hlm⟩:∃lm,(digs B6 m).length=lm:=⟨_,rfl⟩;rw[hlm]at HD HI hl⊢;clear hv hu hm ih l1 l2 hlt hlm;go_enter Tryz.func93,Tryz.ntmps93
      go_wp2_with (first
        |(go_at_call 94;refine HD.out.mono ?_;clear HD;rintro e w1 ⟨x,y,rfl,hx,hy,hw1⟩)
        |(go_at_call 93;refine(HI.out y w1 hw1 hy).mono ?_;clear HI;rintro e w2 ⟨z,rfl,hz,hw2⟩))
      go_ret;exact⟨_,rfl,by rw[←HG.out];exact hz,hw1.trans (hw2.mono hw1.size)⟩
end Go.Proofs.YtlhbcopaakejgaaGreatDoor
namespace Go.Proofs.YtlhbcopaakejgaaGreatDoor
open Go.RowKit
open Go.Lib (decDigits)
def Lim(n:Nat):Prop:=n<B32^200
theorem Lim.dec{n:Nat}(h:Lim n):(decDigits n).length≤3601:=dec_len (L:=200) h
theorem GV.box{W:World}{v:Value}{xs:List Nat}{R:Nat}{p:Option Addr}{l c:Nat}{t:TypeId}(h:GV W v xs)(hR:W.heap[R]?=some (.cells #[.slice p l c] t))(u:Value):GV (W.setCell ⟨R,0,none⟩ u) v xs:=by
  by_cases hn:xs=[]
  · subst hn
    obtain⟨p,c,rfl,_⟩:=h.slice;exact .inl ⟨rfl,_,_,rfl⟩
  · refine h.imp id fun⟨g,c,e,t,hc⟩=>⟨g,c,e,⟨by simpa[World.setCell]using t.lt,fun k hk=>?_⟩,hc⟩
    have hne:g≠R:=fun e=>by
      subst e;have:=t.at0 0 (List.length_pos_iff.2 hn);rw[cell_box1 hR]at this
      cases this
    rw[←t.at0 k hk];exact World.cell?_of_block (w:=W) (Below.heap_setCell _ _ _ _ hne)
theorem RefV.box{W:World}{v:Value}{n:Nat}{R:Nat}{p:Option Addr}{l c:Nat}{t:TypeId}(h:RefV W v n)(hR:W.heap[R]?=some (.cells #[.slice p l c] t))(u:Value):RefV (W.setCell ⟨R,0,none⟩ u) v n:=GV.box h hR u
theorem KS.box{V w:World}{fs:List (World→Prop)}(h:KS V fs w)(obj:Obj):KS V (Has 0 w.heap.size obj::fs) (w.alloc obj):=
  (h.step ((Below.refl _ _).alloc (Nat.le_refl _) obj)).add fun _ hb=>Has.below ⟨Nat.zero_le _,heap_new w obj⟩ hb
theorem Has.lt{base R:Nat}{obj:Obj}{w:World}(h:Has base R obj w):R<w.heap.size:=(Array.getElem?_eq_some_iff.1 h.2).1
theorem Has.cell{base R:Nat}{w:World}{c:Value}{t:TypeId}(h:Has base R (.cells #[c] t) w):w.cell? ⟨R,0,none⟩=some c:=cell_box1 h.2
theorem Has.free{base R:Nat}{w:World}{c:Value}{t:TypeId}(h:Has base R (.cells #[c] t) w):∀o,w.frozen? ⟨R,o,none⟩=false:=free_box1 h.2
def Lm(k n:Nat):Prop:=n<B32^k
theorem Lm.add{a b n m:Nat}(h1:Lm a n)(h2:Lm b m):Lm (max a b+1) (n+m):=by
  unfold Lm at*;have e1:B32^a≤B32^(max a b):=Nat.pow_le_pow_right (by decide) (by omega);have e2:B32^b≤B32^(max a b):=Nat.pow_le_pow_right (by decide) (by omega);rw[Nat.pow_succ,b32];rw[b32]at h1 h2 e1 e2;omega
theorem Lm.mul{a b n m:Nat}(h1:Lm a n)(h2:Lm b m):Lm (a+b) (n*m):=by
  unfold Lm at*;rw[Nat.pow_add];exact Nat.mul_lt_mul'' h1 h2
theorem Lm.sub{a n m:Nat}(h1:Lm a n):Lm a (n-m):=Nat.lt_of_le_of_lt (Nat.sub_le _ _) h1
theorem rsub_any(v u:Value)(n m:Nat)(w:World)(hv:RefV w v n)(hu:RefV w u m)(h1:(digs B6 n).length≤900000)(h2:(digs B6 m).length≤900000):
    Calls Tryz.prog 67 #[v,u] w fun e w'=> ∃x,e=.returned (.tuple #[x,.int .i64 (if n<m then 2 else 0)])∧RefV w' x (n-m)∧Below w.heap.size w w':=by
  by_cases hlt:n<m
  · rw[if_pos hlt]
    refine(rsub_err v u n m w hv hu h1 h2 hlt).mono fun e w' ⟨h1,h2⟩=>⟨_,h1,?_,h2⟩
    rw[Nat.sub_eq_zero_of_le (by omega)];exact .inl ⟨digs_zero,_,_,rfl⟩
  · rw[if_neg hlt]
    exact rsub_ok v u n m w hv hu h1 h2 (by omega)
def bCell(x:Nat):Value:=.int .u8 (x:Int)
def ArrB(W:World)(D:Nat)(xs:List Nat):Prop:=W.heap[D]?=some (.cells (xs.map bCell).toArray 5 (0,0))
theorem ArrB.lt{W:World}{D:Nat}{xs:List Nat}(h:ArrB W D xs):D<W.heap.size:=(Array.getElem?_eq_some_iff.1 h).1
theorem ArrB.cell{W:World}{D:Nat}{xs:List Nat}(h:ArrB W D xs)(k:Nat)(hk:k<xs.length):W.cell? ⟨D,k,none⟩=some (.int .u8 (xs[k]:Int)):=by
  unfold World.cell?;rw[show W.heap[(⟨D,k,none⟩:Addr).block]?=_ from h];simp[hk,bCell]
theorem ArrB.free{W:World}{D:Nat}{xs:List Nat}(h:ArrB W D xs):∀o,W.frozen? ⟨D,o,none⟩=false:=by
  intro o;unfold World.frozen?;rw[show W.heap[(⟨D,o,none⟩:Addr).block]?=_ from h];simp
theorem ArrB.below{W W':World}{D:Nat}{xs:List Nat}(h:ArrB W D xs)(hb:Below W.heap.size W W'):ArrB W' D xs:=(hb.block _ h.lt).trans h
theorem ArrB.store{W:World}{D:Nat}{xs:List Nat}(h:ArrB W D xs)(k v:Nat):ArrB (W.setCell ⟨D,k,none⟩ (.int .u8 (v:Int))) D (xs.set k v):=by
  unfold ArrB;rw[heap_setCell_at h];simp[List.map_set,bCell]
def rem0(n m:Nat):Nat:=if m=0 then 0 else n%m
def errD(m:Nat):Int:=if m=0 then 10 else 0
theorem dm_any(v u:Value)(n m:Nat)(w:World)(hv:NatV w v n)(hu:NatV w u m)(hl:(digs B32 n).length≤100000)(hl2:(digs B32 m).length≤100000):
    Calls Tryz.prog 81 #[v,u] w fun e w'=> ∃x y,e=.returned (.tuple #[x,y,.int .i64 (errD m)])∧NatV w' x (n/m)∧NatV w' y (rem0 n m)∧Below w.heap.size w w':=by
  unfold rem0 errD
  by_cases h:m=0
  · subst h
    rw[if_pos rfl,if_pos rfl,Nat.div_zero];exact(divmod_zero v u n w hv hu).mono fun e w' ⟨h1,h2⟩=>⟨_,_,h1,NatV.zero _,NatV.zero _,h2⟩
  · rw[if_neg h,if_neg h]
    exact divmod_any v u n m w hv hu h hl hl2
theorem rdm_any(v u:Value)(n m:Nat)(w:World)(hv:RefV w v n)(hu:RefV w u m)(hl:(digs B6 n).length≤50000)(hl2:(digs B6 m).length≤50000):
    Calls Tryz.prog 94 #[v,u] w fun e w'=> ∃x y,e=.returned (.tuple #[x,y,.int .i64 (errD m)])∧RefV w' x (n/m)∧RefV w' y (rem0 n m)∧Below w.heap.size w w':=by
  unfold rem0 errD
  by_cases h:m=0
  · subst h
    rw[if_pos rfl,if_pos rfl,Nat.div_zero];exact(rdivmod_zero v u n w hv hu).mono fun e w' ⟨h1,h2⟩=>⟨_,_,h1,.inl ⟨digs_zero,_,_,rfl⟩,.inl ⟨digs_zero,_,_,rfl⟩,h2⟩
  · rw[if_neg h,if_neg h]
    exact rdivmod_any v u n m w hv hu h hl hl2
theorem Lim.le{n m:Nat}(h:Lim m)(hle:n≤m):Lim n:=Nat.lt_of_le_of_lt hle h
end Go.Proofs.YtlhbcopaakejgaaGreatDoor
