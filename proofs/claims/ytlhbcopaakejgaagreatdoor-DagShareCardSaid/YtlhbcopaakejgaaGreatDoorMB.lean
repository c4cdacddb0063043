/- Numbers as the program holds them; trim, IsZero, Of. Uint64, Bits, Cmp. Cmp. Arrays of digits that a call makes; Add. Add. Sub. Mul. divideSmall. -/

import Derived.Test.YtlhbcopaakejgaaGreatDoorShelf
import Derived.Lib.BitFns
import Derived.Laws.BitsAllLaws
import Derived.OwnWalk
import Derived.Laws.OwnMore
import Derived.Test.YtlhbcopaakejgaaGreatDoorMA
namespace Go.Proofs.YtlhbcopaakejgaaGreatDoor
open Go.RowKit
def B32:Nat:=4294967296
theorem b32:B32=4294967296:=rfl
theorem b32_2:2≤B32:=by decide
structure DigIn(W:World)(g:Nat)(ds:List Nat):Prop where
  lt:g<W.heap.size
  at0:∀k (h:k<ds.length),W.cell? ⟨g,k,none⟩=some (.int .u32 (ds[k]:Int))
theorem DigIn.below{W W':World}{g:Nat}{ds:List Nat}(h:DigIn W g ds)(hb:Below W.heap.size W W'):DigIn W' g ds:=
  ⟨Nat.lt_of_lt_of_le h.lt hb.size,fun k hk=>(hb.cell (p:=⟨g,k,none⟩) h.lt).trans (h.at0 k hk)⟩
theorem DigIn.take{W:World}{g:Nat}{ds:List Nat}(h:DigIn W g ds)(n:Nat):DigIn W g (ds.take n):=
  ⟨h.lt,fun k hk=>by rw[List.length_take]at hk;rw[h.at0 k (by omega)];simp⟩
def DigV(W:World)(s:Value)(ds:List Nat):Prop:=(ds=[]∧ ∃p c,s=.slice p 0 c)∨ ∃g c,s=.slice (some ⟨g,0,none⟩) ds.length c∧DigIn W g ds∧ds.length≤c∧c≤9223372036854775807
theorem DigV.below{W W':World}{s:Value}{ds:List Nat}(h:DigV W s ds)(hb:Below W.heap.size W W'):DigV W' s ds:=
  h.imp id fun⟨g,c,e,t,hc⟩=>⟨g,c,e,t.below hb,hc⟩
def NatV(W:World)(v:Value)(n:Nat):Prop:=(n=0∧v=.agg #[.slice none 0 0])∨(n≠0∧ ∃g c,v=.agg #[.slice (some ⟨g,0,none⟩) (digs B32 n).length c]∧DigIn W g (digs B32 n)∧(digs B32 n).length≤c∧c≤9223372036854775807)
theorem NatV.below{W W':World}{v:Value}{n:Nat}(h:NatV W v n)(hb:Below W.heap.size W W'):NatV W' v n:=
  h.imp id fun⟨h0,g,c,e,t,hc⟩=>⟨h0,g,c,e,t.below hb,hc⟩
theorem NatV.zero(W:World):NatV W (.agg #[.slice none 0 0]) 0:=.inl ⟨rfl,rfl⟩
theorem NatV.dig{W:World}{v:Value}{n:Nat}(h:NatV W v n):∃p c,v=.agg #[.slice p (digs B32 n).length c]∧DigV W (.slice p (digs B32 n).length c) (digs B32 n):=by
  rcases h with⟨rfl,rfl⟩|⟨_,g,c,rfl,t,hc⟩
  · rw[digs_zero];exact⟨none,0,rfl,.inl ⟨rfl,_,_,rfl⟩⟩
  · exact⟨_,c,rfl,.inr ⟨g,c,rfl,t,hc⟩⟩
theorem digs_last_ne{n:Nat}(h:n≠0):digs B32 n≠[]:=fun e=>h ((digs_eq_nil b32_2).1 e)
set_option maxHeartbeats 400000 in
theorem isZero_any(v:Value)(n:Nat)(w:World)(hv:NatV w v n):
    Calls Tryz.prog 34 #[v] w fun e w'=>e=.returned (.bool (n==0))∧Below w.heap.size w w':=by
  rcases hv with⟨rfl,rfl⟩|⟨h0,g,c,rfl,hd,_⟩
  · go_enter Tryz.func34,Tryz.ntmps34
    go_wp2;go_ret;exact⟨rfl,(Below.refl _ _).alloc (Nat.le_refl _) _⟩
  · have hl:0<(digs B32 n).length:=List.length_pos_iff.2 (digs_last_ne h0)
    have hq:((((digs B32 n).length:Nat):Int)==0)=false:=by rw[beq_eq_false_iff_ne];omega
    have HN:=hid (show(n==0)=false by simpa using h0);clear h0;go_enter Tryz.func34,Tryz.ntmps34;go_wp2;go_ret;exact⟨by rw[HN.out];rfl,(Below.refl _ _).alloc (Nat.le_refl _) _⟩
theorem trim_take_zero{ds:List Nat}{k:Nat}(hk:k+1≤ds.length)(h:ds[k]=0):trimD (ds.take (k+1))=trimD (ds.take k):=by
  rw[List.take_succ_eq_append_getElem (by omega),h,trimD_zero]
theorem trim_take_last{ds:List Nat}{k:Nat}(hk:k+1≤ds.length)(h:ds[k]≠0):trimD (ds.take (k+1))=ds.take (k+1):=by
  rw[List.take_succ_eq_append_getElem (by omega),trimD_last h]
theorem natv_of{W:World}{g:Nat}{ds:List Nat}(hd:DigIn W g ds)(hlt:∀d∈ds,d<B32)(k:Nat)(hk:k+1≤ds.length)(h:trimD ds=ds.take (k+1))(hm:ds.length≤9223372036854775807):
    NatV W (.agg #[.slice (some ⟨g,0,none⟩) (k+1) (k+1)]) (val B32 ds):=by
  have e:digs B32 (val B32 ds)=ds.take (k+1):=by rw[digs_val b32_2 hlt,h]
  have hl:(ds.take (k+1)).length=k+1:=by rw[List.length_take];omega
  refine .inr ⟨fun h0=>?_,g,k+1,?_,?_,?_,by omega⟩
  · rw[h0,digs_zero]at e
    rw[←e]at hl;simp at hl
  · rw[e,hl]
  · rw[e];exact hd.take _
  · rw[e,hl];exact Nat.le_refl _
set_option maxRecDepth 100000 in
set_option maxHeartbeats 1000000 in
theorem trim_any(s:Value)(ds:List Nat)(w:World)(hs:DigV w s ds)(hlt:∀d∈ds,d<B32)(hl:ds.length≤1000000):
    Calls Tryz.prog 100 #[s] w fun e w'=> ∃v,e=.returned v∧NatV w' v (val B32 ds)∧Below w.heap.size w w':=by
  rcases hs with⟨rfl,p,c,rfl⟩|⟨g,c,rfl,hd,hc,hc2⟩
  · go_enter Tryz.func100,Tryz.ntmps100
    go_wp2;go_loop [3] (fun n=>n=.int .i64 0) (fun _=>0)
    case atStart=>rfl
    case round=>
      obtain rfl:=hrel;go_wp2;have hc:=cell_box1 (heap_new w (.cells #[.slice none 0 0] 39));refine bodyPost_ret (v:=.agg #[.slice none 0 0]) (by simp[results,Tryz.results100,go_sem,hc]) rfl ⟨_,rfl,NatV.zero _,(Below.refl _ _).alloc (Nat.le_refl _) _⟩
  · have HLT:=hid hlt
    have hgl:=hd.lt;clear hlt;go_enter Tryz.func100,Tryz.ntmps100;go_wp2_with fail;go_loop [3] (fun n=> ∃k:Nat,k≤ds.length∧n=.int .i64 k∧RowKit.Hid (trimD ds=trimD (ds.take k))) (fun n=>(intOf n).toNat)
    case atStart=>exact⟨ds.length,Nat.le_refl _,rfl,hid (by rw[List.take_length])⟩
    case round=>
      obtain⟨k,hk,rfl,HT⟩:=hrel
      by_cases hk0:k=0
      · subst hk0
        have h0:val B32 ds=0:=(val_eq_zero b32_2).2 (by rw[HT.out];rfl);have H0:=hid h0;clear h0;go_wp2;have hc:=cell_box1 (heap_new w (.cells #[.slice none 0 0] 39));refine bodyPost_ret (v:=.agg #[.slice none 0 0]) (by simp[results,Tryz.results100,go_sem,hc]) rfl ⟨_,rfl,?_,(Below.refl _ _).alloc (Nat.le_refl _) _⟩;rw[H0.out];exact NatV.zero _
      · obtain⟨j,rfl⟩:∃j,k=j+1:=⟨k-1,by omega⟩
        have hj:j<ds.length:=by omega
        have g0:=hd.at0 j hj;have q1:(((j+1:Nat):Int)==0)=false:=by rw[beq_eq_false_iff_ne];omega
        by_cases hz:ds[j]=0
        · rw[hz]at g0
          have HZ:=hid (trim_take_zero hk hz);clear hz;go_wp2;go_round
          case rel=>exact⟨j,by omega,by go_num,hid (HT.out.trans HZ.out)⟩
          case measure=>simp[intOf]
        · have q2:(((ds[j]:Nat):Int)==0)=false:=by rw[beq_eq_false_iff_ne];omega
          have HZ:=hid (trim_take_last hk hz);clear hz;go_wp2;have hW:=(Below.refl w.heap.size w).alloc (Nat.le_refl _) (.cells #[.slice (some ⟨g,0,none⟩) (j+1) (j+1)] 39);have hcl:=cell_box1 (heap_new w (.cells #[.slice (some ⟨g,0,none⟩) (j+1) (j+1)] 39));refine bodyPost_ret (v:=.agg #[.slice (some ⟨g,0,none⟩) (j+1) (j+1)]) (by simp[results,Tryz.results100,go_sem,hcl]) rfl ⟨_,rfl,?_,hW⟩;exact natv_of (hd.below hW) HLT.out j hk (HT.out.trans HZ.out) (by omega)
theorem dig_two(a b:Nat)(w:World)(t:TypeId):DigV (w.alloc (.cells #[.int .u32 (a:Int),.int .u32 (b:Int)] t)) (.slice (some ⟨w.heap.size,0,none⟩) 2 2) [a,b]:=by
  refine .inr ⟨w.heap.size,2,rfl,⟨by simp,fun k hk=>?_⟩,by simp,by omega⟩;have h:=heap_new w (.cells #[.int .u32 (a:Int),.int .u32 (b:Int)] t)
  match k,hk with
  |0,_=>unfold World.cell?;rw[h];rfl
  |1,_=>unfold World.cell?;rw[h];rfl
theorem NatV.store{W:World}{v:Value}{n R:Nat}{p:Option Addr}{l c:Nat}(h:NatV W v n)(hR:W.cell? ⟨R,0,none⟩=some (.slice p l c))(u:Value):NatV (W.setCell ⟨R,0,none⟩ u) v n:=by
  refine h.imp id fun⟨h0,g,c,e,t,hc⟩=>⟨h0,g,c,e,⟨by simpa[World.setCell]using t.lt,fun k hk=>?_⟩,hc⟩
  have hne:g≠R:=fun e=>by
    subst e;have:=t.at0 0 (by omega);rw[hR]at this;cases this
  rw[←t.at0 k hk];exact World.cell?_of_block (w:=W) (Below.heap_setCell _ _ _ _ hne)
set_option maxHeartbeats 1000000 in
theorem of_any(n:Nat)(w:World)(hn:n<18446744073709551616):
    Calls Tryz.prog 78 #[.int .u64 (n:Int)] w fun e w'=> ∃v,e=.returned v∧NatV w' v n∧Below w.heap.size w w':=by
  have HT:=hid (fun(w1:World) (h:DigV w1 (.slice (some ⟨w.heap.size+1,0,none⟩) 2 2) [n%B32,n/B32])=>trim_any _ _ w1 h (by
    intro d hd;have:=b32;simp only[List.mem_cons,List.not_mem_nil,or_false]at hd
    rcases hd with rfl|rfl
    · exact Nat.mod_lt _ (by omega)
    · exact Nat.div_lt_of_lt_mul (by rw[b32];omega)) (by simp))
  go_enter Tryz.func78,Tryz.ntmps78;go_wp2_with fail;have hval:val B32 [n%B32,n/B32]=n:=by simp only[val];have:=Nat.mod_add_div n B32;omega
  obtain⟨W1,hW1,hR1,hb1,hd1⟩:∃W1,W1=(w.alloc (.cells #[.slice none 0 0] 39)).alloc (.cells #[.int .u32 ((n:Int)%4294967296),.int .u32 ((n:Int)/4294967296)] 106)∧W1.heap[w.heap.size]?=some (.cells #[.slice none 0 0] 39)∧Below w.heap.size w W1∧DigV W1 (.slice (some ⟨w.heap.size+1,0,none⟩) 2 2) [n%B32,n/B32]:=by
    refine⟨_,rfl,(Below.heap_alloc _ _ _ (by simp)).trans (heap_new w _),((Below.refl _ w).alloc (Nat.le_refl _) _).alloc (by simp) _,?_⟩;have:=dig_two (n%B32) (n/B32) (w.alloc (.cells #[.slice none 0 0] 39)) 106;rw[World.size_alloc]at this;exact this
  rw[←hW1];have hs1:w.heap.size<W1.heap.size:=by rw[hW1];simp;omega
  clear hW1;go_wp2_with (go_at_call 100;refine(HT.out _ hd1).mono ?_;clear HT;rintro e w2 ⟨v,rfl,hv,hw2⟩;rw[hval]at hv;obtain⟨p,c,rfl,_⟩:=hv.dig;have hR2:=(hw2.block _ hs1).trans hR1;have hc2:=cell_box1 hR2;have hf2:=free_box1 hR2);have hc3:=res_store hR2 (.slice p (digs B32 n).length c);refine bodyPost_ret (v:=.agg #[.slice p (digs B32 n).length c]) (by simp[results,Tryz.results78,go_sem,hc3]) rfl ⟨_,rfl,hv.store hc2 _,?_⟩;exact(hb1.trans (hw2.mono (by omega))).setCell (p:=⟨w.heap.size,0,none⟩) (Nat.le_refl _) _
end Go.Proofs.YtlhbcopaakejgaaGreatDoor
namespace Go.Proofs.YtlhbcopaakejgaaGreatDoor
open Go.RowKit
theorem digs_one{n:Nat}(h0:n≠0)(h:n<B32):digs B32 n=[n]:=by
  rw[digs_pos b32_2 h0,Nat.mod_eq_of_lt h,Nat.div_eq_of_lt h,digs_zero]
theorem digs_two{n:Nat}(h0:B32≤n)(h:n<18446744073709551616):digs B32 n=[n%B32,n/B32]:=by
  have hb:=b32;have h1:n/B32≠0:=by have:=Nat.div_pos h0 (by omega);omega
  rw[digs_pos b32_2 (by omega),digs_one h1 (Nat.div_lt_of_lt_mul (by rw[hb];omega))]
theorem digs_three{n:Nat}(h:18446744073709551616≤n):3≤(digs B32 n).length:=digs_len_ge b32_2 2 n (by rw[b32];omega)
def u64V(n:Nat):Value:=.tuple #[.int .u64 (if n<18446744073709551616 then(n:Int)else 0),.bool (decide (n<18446744073709551616))]
theorem u64_or(n:Nat)(h:n<18446744073709551616):bits BinOp.or IntKind.u64 (((n/B32:Nat):Int)*4294967296) ((n%B32:Nat):Int)=(n:Int):=by
  have hb:=b32;have h1:n%B32<2^32:=by have:=Nat.mod_lt n (show 0<B32 by omega);omega
  have h2:n/B32<4294967296:=Nat.div_lt_of_lt_mul (by rw[hb];omega);have e1:((n/B32:Nat):Int)*4294967296=((n/B32*4294967296:Nat):Int):=by omega
  rw[e1,u64_or_nat _ _ (by omega) (by omega)];have e2:n/B32*4294967296=2^32*(n/B32):=by omega
  rw[e2, ←Nat.two_pow_add_eq_or_of_lt h1];have:=Nat.mod_add_div n B32;rw[hb]at this⊢;omega
set_option maxRecDepth 100000 in
set_option maxHeartbeats 1000000 in
theorem uint64_any(v:Value)(n:Nat)(w:World)(hv:NatV w v n):
    Calls Tryz.prog 113 #[v] w fun e w'=>e=.returned (u64V n)∧Below w.heap.size w w':=by
  rcases hv with⟨rfl,rfl⟩|⟨h0,g,c,rfl,hd,_⟩
  · go_enter Tryz.func113,Tryz.ntmps113
    go_wp2;go_ret2;exact⟨rfl,(Below.refl _ _).alloc (Nat.le_refl _) _⟩
  · have hgl:=hd.lt
    by_cases h1:n<B32
    · have hl:=digs_one h0 h1
      have HE:=hid (show u64V n=.tuple #[.int .u64 (n:Int),.bool true] by have:=b32;unfold u64V;rw[if_pos (by omega),decide_eq_true (by omega)]);rw[hl]at hd⊢;have g0:=hd.at0 0 (by simp);simp only[List.getElem_cons_zero]at g0;have q:=b32;have q1:(n:Int)<4294967296:=by omega
      clear hd hl h0 h1 q;go_enter Tryz.func113,Tryz.ntmps113;go_wp2;go_ret2;exact⟨by rw[HE.out];rfl,(Below.refl _ _).alloc (Nat.le_refl _) _⟩
    · by_cases h2:n<18446744073709551616
      · have hl:=digs_two (by omega) h2
        have HE:=hid (show u64V n=.tuple #[.int .u64 (n:Int),.bool true] by unfold u64V;rw[if_pos h2,decide_eq_true h2]);rw[hl]at hd⊢;have g0:=hd.at0 0 (by simp);have g1:=hd.at0 1 (by simp);simp only[List.getElem_cons_zero,List.getElem_cons_succ]at g0 g1;have hor:=hid (u64_or n h2);have hb:=b32;have q1:n/B32<4294967296:=Nat.div_lt_of_lt_mul (by rw[hb];omega);have q2:n%B32<4294967296:=by have:=Nat.mod_lt n (show 0<B32 by omega);omega
        obtain⟨hi,hhi⟩:∃x,n/B32=x:=⟨_,rfl⟩;obtain⟨lo,hlo⟩:∃x,n%B32=x:=⟨_,rfl⟩;rw[hhi]at q1 g1 hor⊢;rw[hlo]at q2 g0 hor⊢;clear hd hl h0 h1 h2 hb hhi hlo;go_enter Tryz.func113,Tryz.ntmps113;go_upto_region 7 with(fail);obtain⟨W1,hW1,hsz,kB,hWb⟩:=box1_head (.slice (some ⟨g,0,none⟩) 2 c) 39 w;have g0':=(hWb.cell (p:=⟨g,0,none⟩) hgl).trans g0;have g1':=(hWb.cell (p:=⟨g,1,none⟩) hgl).trans g1;have hb1:w.heap.size<W1.heap.size:=by omega
        have hb2:g<W1.heap.size:=by omega
        have d0:=cell_box1 kB;rw[←hW1];clear hW1 g0 g1 hsz;refine wp_region_staged (fun w'=>Below W1.heap.size W1 w') [0,1,0,1,0,0,0,1,0,1,0,0,0,0] (by kernel_rfl) (by kernel_rfl) (by kernel_rfl) (by exact(Below.refl _ _).drew) ?_;apply lexF rfl;(· intro _;go_simp;(try go_bits);exact⟨rfl,rfl⟩);simp only[Act.put,List.setIfInBounds_toArray,List.set_cons_zero,List.set_cons_succ];apply lexH rfl;(· intro w' hw';have hcc:=cellsBelow hw';go_simp;(try go_bits);exact⟨rfl,hw'⟩);simp only[Act.put,List.setIfInBounds_toArray,List.set_cons_zero,List.set_cons_succ];apply lexF rfl;(· intro _;go_simp;(try go_bits);exact⟨rfl,rfl⟩);simp only[Act.put,List.setIfInBounds_toArray,List.set_cons_zero,List.set_cons_succ];apply lexH rfl;(· intro w' hw';have hcc:=cellsBelow hw';go_simp;(try go_bits);exact⟨rfl,hw'⟩);simp only[Act.put,List.setIfInBounds_toArray,List.set_cons_zero,List.set_cons_succ];apply lexF rfl;(· intro _;go_simp;(try go_bits);exact⟨rfl,rfl⟩);simp only[Act.put,List.setIfInBounds_toArray,List.set_cons_zero,List.set_cons_succ];apply lexF rfl;(· intro _;go_simp;(try go_bits);exact⟨rfl,rfl⟩);simp only[Act.put,List.setIfInBounds_toArray,List.set_cons_zero,List.set_cons_succ];apply lexF rfl;(· intro _;go_simp;(try go_bits);exact⟨rfl,rfl⟩);simp only[Act.put,List.setIfInBounds_toArray,List.set_cons_zero,List.set_cons_succ];apply lexH rfl;(· intro w' hw';have hcc:=cellsBelow hw';go_simp;(try go_bits);exact⟨rfl,hw'⟩);simp only[Act.put,List.setIfInBounds_toArray,List.set_cons_zero,List.set_cons_succ];apply lexF rfl;(· intro _;go_simp;(try go_bits);exact⟨rfl,rfl⟩);simp only[Act.put,List.setIfInBounds_toArray,List.set_cons_zero,List.set_cons_succ];apply lexH rfl;(· intro w' hw';have hcc:=cellsBelow hw';go_simp;(try go_bits);exact⟨rfl,hw'⟩);simp only[Act.put,List.setIfInBounds_toArray,List.set_cons_zero,List.set_cons_succ];apply lexF rfl;(· intro _;go_simp;(try go_bits);exact⟨rfl,rfl⟩);simp only[Act.put,List.setIfInBounds_toArray,List.set_cons_zero,List.set_cons_succ];apply lexF rfl;(· intro _;go_simp;(try go_bits);exact⟨rfl,rfl⟩);simp only[Act.put,List.setIfInBounds_toArray,List.set_cons_zero,List.set_cons_succ]
        apply lexF rfl;(· intro _;go_simp;(try go_bits);exact⟨rfl,rfl⟩);simp only[Act.put,List.setIfInBounds_toArray,List.set_cons_zero,List.set_cons_succ];apply lexF rfl;(· intro _;go_simp;(try go_bits);exact⟨rfl,rfl⟩);simp only[Act.put,List.setIfInBounds_toArray,List.set_cons_zero,List.set_cons_succ];refine lexEnd (fun w2 hw2=>?_);go_wp2;rw[hor.out];go_ret2;exact⟨by rw[HE.out];rfl,hWb.trans (hw2.mono (by omega))⟩
      · have hl:=digs_three (Nat.le_of_not_lt h2)
        have HE:=hid (show u64V n=.tuple #[.int .u64 0,.bool false] by unfold u64V;rw[if_neg h2,decide_eq_false h2]);obtain⟨l,hl2⟩:∃l,(digs B32 n).length=l:=⟨_,rfl⟩;rw[hl2]at hl⊢;have q0:((l:Int)==0)=false:=by rw[beq_eq_false_iff_ne];omega
        have q1:((l:Int)==1)=false:=by rw[beq_eq_false_iff_ne];omega
        have q2:((l:Int)==2)=false:=by rw[beq_eq_false_iff_ne];omega
        clear hd h0 h1 h2 hl2;go_enter Tryz.func113,Tryz.ntmps113;go_wp2;go_ret2;exact⟨by rw[HE.out];rfl,(Below.refl _ _).alloc (Nat.le_refl _) _⟩
def bitsN(n:Nat):Nat:=if h:n=0 then 0 else bitsN (n/2)+1
termination_by n
decreasing_by omega
theorem bitsN_zero:bitsN 0=0:=by rw[bitsN];simp
theorem bitsN_pos{n:Nat}(h:n≠0):bitsN n=bitsN (n/2)+1:=by rw[bitsN,dif_neg h]
theorem bitLen_bits(f x:Nat)(h:x<2^f):Lib.bitLenAux f x=bitsN x:=by
  induction f generalizing x with
  | zero=>
    have h1:x=0:=by simpa using h
    rw[h1,bitsN_zero];rfl
  | succ f ih=>
    unfold Lib.bitLenAux
    by_cases hx:x=0
    · subst hx;rw[bitsN_zero];simp
    · rw[if_neg hx,bitsN_pos hx,ih (x/2) (by rw[Nat.pow_succ]at h;omega)];omega
end Go.Proofs.YtlhbcopaakejgaaGreatDoor
namespace Go.Proofs.YtlhbcopaakejgaaGreatDoor
open Go.RowKit
def cmpN(n m:Nat):Int:=if n<m then-1 else if m<n then 1 else 0
theorem cmpN_lt{n m:Nat}(h:n<m):cmpN n m= -1:=if_pos h
theorem cmpN_gt{n m:Nat}(h:m<n):cmpN n m=1:=by unfold cmpN;rw[if_neg (by omega),if_pos h]
theorem cmpN_eq(n:Nat):cmpN n n=0:=by unfold cmpN;rw[if_neg (by omega),if_neg (by omega)]
theorem val_lt_at{B:Nat}(hB:2≤B){ds es:List Nat}(hd:∀d∈ds,d<B){k:Nat}(h1:k<ds.length)(h2:k<es.length)(hl:ds.length=es.length)(ht:ds.drop (k+1)=es.drop (k+1))(h:ds[k]<es[k]):val B ds<val B es:=by
  have e1:=val_take_drop (B:=B) ds k (by omega);have e2:=val_take_drop (B:=B) es k (by omega);rw[List.drop_eq_getElem_cons h1]at e1;rw[List.drop_eq_getElem_cons h2, ←ht]at e2;simp only[val]at e1 e2
  have h3:val B (ds.take k)<B^k:=by
    have:=val_lt hB (l:=ds.take k) (fun d hd'=>hd d (List.mem_of_mem_take hd'))
    rwa [List.length_take,Nat.min_eq_left (by omega)]at this
  generalize val B (ds.drop (k+1))=X at e1 e2;have h4:B^k*(ds[k]+B*X+1)≤B^k*(es[k]+B*X):=Nat.mul_le_mul_left _ (by omega);rw[Nat.mul_add (B^k) (ds[k]+B*X) 1]at h4;omega
theorem drop_same{ds es:List Nat}{k:Nat}(h1:k<ds.length)(h2:k<es.length)(ht:ds.drop (k+1)=es.drop (k+1))(h:ds[k]=es[k]):ds.drop k=es.drop k:=by
  rw[List.drop_eq_getElem_cons h1,List.drop_eq_getElem_cons h2,ht,h]
set_option maxHeartbeats 1000000 in
theorem cmp_len(p q:Option Addr)(l m c d:Nat)(w:World)(h:l≠m)(_hl:l≤1000000)(_hm:m≤1000000):
    Calls Tryz.prog 41 #[.agg #[.slice p l c],.agg #[.slice q m d]] w fun e w'=>e=.returned (.int .i64 (if l<m then-1 else 1))∧Below w.heap.size w w':=by
  have hne:((l:Int)==(m:Int))=false:=by rw[beq_eq_false_iff_ne];omega
  have hne2:((l:Int) !=(m:Int))=true:=by rw[bne_iff_ne];omega
  by_cases hlt:l<m
  · skip
    go_enter Tryz.func41,Tryz.ntmps41;go_upto_region 1 with(fail);obtain⟨W1,hW1,hsz,kA,kB,hWb⟩:=box2_head (.slice p l c) (.slice q m d) 39 39 w;rw[←hW1];have hb1:w.heap.size<W1.heap.size:=by omega
    have hb2:w.heap.size+1<W1.heap.size:=by omega
    have d0:=cell_box1 kA;have d1:=cell_box1 kB;clear hW1 hsz h;refine wp_region_staged (fun w'=>Below W1.heap.size W1 w') [0,1,0,1,0,0] (by kernel_rfl) (by kernel_rfl) (by kernel_rfl) (by exact(Below.refl _ _).drew) ?_;apply lexF rfl;(· intro _;go_simp;(try go_bits);exact⟨rfl,rfl⟩);simp only[Act.put,List.setIfInBounds_toArray,List.set_cons_zero,List.set_cons_succ];apply lexH rfl;(· intro w' hw';have hcc:=cellsBelow hw';go_simp;(try go_bits);exact⟨rfl,hw'⟩);simp only[Act.put,List.setIfInBounds_toArray,List.set_cons_zero,List.set_cons_succ];apply lexF rfl;(· intro _;go_simp;(try go_bits);exact⟨rfl,rfl⟩);simp only[Act.put,List.setIfInBounds_toArray,List.set_cons_zero,List.set_cons_succ];apply lexH rfl;(· intro w' hw';have hcc:=cellsBelow hw';go_simp;(try go_bits);exact⟨rfl,hw'⟩);simp only[Act.put,List.setIfInBounds_toArray,List.set_cons_zero,List.set_cons_succ];apply lexF rfl;(· intro _;go_simp;(try go_bits);exact⟨rfl,rfl⟩);simp only[Act.put,List.setIfInBounds_toArray,List.set_cons_zero,List.set_cons_succ];apply lexF rfl;(· intro _;go_simp;(try go_bits);exact⟨rfl,rfl⟩);simp only[Act.put,List.setIfInBounds_toArray,List.set_cons_zero,List.set_cons_succ];refine lexEnd (fun w2 hw2=>?_);go_wp2;go_ret;exact⟨rfl,hWb.trans (hw2.mono (by omega))⟩
  · skip
    have hge:¬(l:Int)<(m:Int):=by omega
    go_enter Tryz.func41,Tryz.ntmps41;go_upto_region 1 with(fail);obtain⟨W1,hW1,hsz,kA,kB,hWb⟩:=box2_head (.slice p l c) (.slice q m d) 39 39 w;rw[←hW1];have hb1:w.heap.size<W1.heap.size:=by omega
    have hb2:w.heap.size+1<W1.heap.size:=by omega
    have d0:=cell_box1 kA;have d1:=cell_box1 kB;clear hW1 hsz h;refine wp_region_staged (fun w'=>Below W1.heap.size W1 w') [0,1,0,1,0,0] (by kernel_rfl) (by kernel_rfl) (by kernel_rfl) (by exact(Below.refl _ _).drew) ?_;apply lexF rfl;(· intro _;go_simp;(try go_bits);exact⟨rfl,rfl⟩);simp only[Act.put,List.setIfInBounds_toArray,List.set_cons_zero,List.set_cons_succ];apply lexH rfl;(· intro w' hw';have hcc:=cellsBelow hw';go_simp;(try go_bits);exact⟨rfl,hw'⟩);simp only[Act.put,List.setIfInBounds_toArray,List.set_cons_zero,List.set_cons_succ];apply lexF rfl;(· intro _;go_simp;(try go_bits);exact⟨rfl,rfl⟩);simp only[Act.put,List.setIfInBounds_toArray,List.set_cons_zero,List.set_cons_succ];apply lexH rfl;(· intro w' hw';have hcc:=cellsBelow hw';go_simp;(try go_bits);exact⟨rfl,hw'⟩);simp only[Act.put,List.setIfInBounds_toArray,List.set_cons_zero,List.set_cons_succ];apply lexF rfl;(· intro _;go_simp;(try go_bits);exact⟨rfl,rfl⟩);simp only[Act.put,List.setIfInBounds_toArray,List.set_cons_zero,List.set_cons_succ];apply lexF rfl;(· intro _;go_simp;(try go_bits);exact⟨rfl,rfl⟩);simp only[Act.put,List.setIfInBounds_toArray,List.set_cons_zero,List.set_cons_succ];refine lexEnd (fun w2 hw2=>?_);go_wp2;go_ret;exact⟨rfl,hWb.trans (hw2.mono (by omega))⟩
set_option maxHeartbeats 1000000 in
theorem cmp_zero(w:World):
    Calls Tryz.prog 41 #[.agg #[.slice none 0 0],.agg #[.slice none 0 0]] w fun e w'=>e=.returned (.int .i64 0)∧Below w.heap.size w w':=by
  go_enter Tryz.func41,Tryz.ntmps41;go_upto_region 1 with(fail);obtain⟨W1,hW1,hsz,kA,kB,hWb⟩:=box2_head (.slice none 0 0) (.slice none 0 0) 39 39 w;rw[←hW1];have hb1:w.heap.size<W1.heap.size:=by omega
  have hb2:w.heap.size+1<W1.heap.size:=by omega
  have d0:=cell_box1 kA;have d1:=cell_box1 kB;clear hW1 hsz;refine wp_region_staged (fun w'=>Below W1.heap.size W1 w') [0,1,0,1,0,0] (by kernel_rfl) (by kernel_rfl) (by kernel_rfl) (by exact(Below.refl _ _).drew) ?_;apply lexF rfl;(· intro _;go_simp;(try go_bits);exact⟨rfl,rfl⟩);simp only[Act.put,List.setIfInBounds_toArray,List.set_cons_zero,List.set_cons_succ];apply lexH rfl;(· intro w' hw';have hcc:=cellsBelow hw';go_simp;(try go_bits);exact⟨rfl,hw'⟩);simp only[Act.put,List.setIfInBounds_toArray,List.set_cons_zero,List.set_cons_succ];apply lexF rfl;(· intro _;go_simp;(try go_bits);exact⟨rfl,rfl⟩);simp only[Act.put,List.setIfInBounds_toArray,List.set_cons_zero,List.set_cons_succ];apply lexH rfl;(· intro w' hw';have hcc:=cellsBelow hw';go_simp;(try go_bits);exact⟨rfl,hw'⟩);simp only[Act.put,List.setIfInBounds_toArray,List.set_cons_zero,List.set_cons_succ];apply lexF rfl;(· intro _;go_simp;(try go_bits);exact⟨rfl,rfl⟩);simp only[Act.put,List.setIfInBounds_toArray,List.set_cons_zero,List.set_cons_succ];apply lexF rfl;(· intro _;go_simp;(try go_bits);exact⟨rfl,rfl⟩);simp only[Act.put,List.setIfInBounds_toArray,List.set_cons_zero,List.set_cons_succ];refine lexEnd (fun w2 hw2=>?_);go_wp2;go_loop [7] (fun i=>i=.int .i64 (-1)) (fun _=>0)
  case atStart=>rfl
  case round=>
    obtain rfl:=hrel;go_wp2;go_ret;exact⟨rfl,hWb.trans (hw2.mono (by omega))⟩
set_option maxRecDepth 100000 in
set_option maxHeartbeats 1000000 in
theorem cmp_same(g g' c c':Nat)(ds es:List Nat)(w:World)(hd:DigIn w g ds)(he:DigIn w g' es)(hl:ds.length=es.length)(h1:∀d∈ds,d<B32)(h2:∀d∈es,d<B32)(hlen:ds.length≤1000000):
    Calls Tryz.prog 41 #[.agg #[.slice (some ⟨g,0,none⟩) ds.length c],.agg #[.slice (some ⟨g',0,none⟩) ds.length c']] w fun e w'=>e=.returned (.int .i64 (cmpN (val B32 ds) (val B32 es)))∧Below w.heap.size w w':=by
  have H1:=hid h1;have H2:=hid h2;have HL:=hid hl;have hgl:=hd.lt;have hgl':=he.lt;clear h1 h2 hl;go_enter Tryz.func41,Tryz.ntmps41;go_upto_region 1 with(fail);obtain⟨W1,hW1,hsz,kA,kB,hWb⟩:=box2_head (.slice (some ⟨g,0,none⟩) ds.length c) (.slice (some ⟨g',0,none⟩) ds.length c') 39 39 w;have hd1:=hd.below hWb;have he1:=he.below hWb;rw[←hW1];have hb1:w.heap.size<W1.heap.size:=by omega
  have hb2:w.heap.size+1<W1.heap.size:=by omega
  have hb3:g<W1.heap.size:=by omega
  have hb4:g'<W1.heap.size:=by omega
  have d0:=cell_box1 kA;have d1:=cell_box1 kB;clear hW1 hsz;refine wp_region_staged (fun w'=>Below W1.heap.size W1 w') [0,1,0,1,0,0] (by kernel_rfl) (by kernel_rfl) (by kernel_rfl) (by exact(Below.refl _ _).drew) ?_;apply lexF rfl;(· intro _;go_simp;(try go_bits);exact⟨rfl,rfl⟩);simp only[Act.put,List.setIfInBounds_toArray,List.set_cons_zero,List.set_cons_succ];apply lexH rfl;(· intro w' hw';have hcc:=cellsBelow hw';go_simp;(try go_bits);exact⟨rfl,hw'⟩);simp only[Act.put,List.setIfInBounds_toArray,List.set_cons_zero,List.set_cons_succ];apply lexF rfl;(· intro _;go_simp;(try go_bits);exact⟨rfl,rfl⟩);simp only[Act.put,List.setIfInBounds_toArray,List.set_cons_zero,List.set_cons_succ];apply lexH rfl;(· intro w' hw';have hcc:=cellsBelow hw';go_simp;(try go_bits);exact⟨rfl,hw'⟩);simp only[Act.put,List.setIfInBounds_toArray,List.set_cons_zero,List.set_cons_succ];apply lexF rfl;(· intro _;go_simp;(try go_bits);exact⟨rfl,rfl⟩);simp only[Act.put,List.setIfInBounds_toArray,List.set_cons_zero,List.set_cons_succ];apply lexF rfl;(· intro _;go_simp;(try go_bits);exact⟨rfl,rfl⟩);simp only[Act.put,List.setIfInBounds_toArray,List.set_cons_zero,List.set_cons_succ];refine lexEnd (fun w2 hw2=>?_);clear d0 d1;go_wp2_with fail;go_loopw [7] (fun i wr=> ∃k:Nat,k≤ds.length∧i=.int .i64 ((k:Int)-1)∧RowKit.Hid (ds.drop k=es.drop k)∧Below W1.heap.size W1 wr) (fun i _=>(intOf i+1).toNat)
  case atStart=>exact⟨ds.length,Nat.le_refl _,rfl,hid (by have:=HL.out;rw[List.drop_length,this,List.drop_length]),hw2⟩
  case round=>
    clear hw2;obtain⟨k,hk,rfl,HD,hbw⟩:=hrel
    by_cases hk0:k=0
    · subst hk0
      have HE:=hid (show cmpN (val B32 ds) (val B32 es)=0 by have:=HD.out;simp only[List.drop_zero]at this;rw[this];exact cmpN_eq _);go_wp2;go_ret;exact⟨by rw[HE.out];rfl,hWb.trans (hbw.mono (by omega))⟩
    · obtain⟨j,rfl⟩:∃j,k=j+1:=⟨k-1,by omega⟩
      have hj:j<ds.length:=by omega
      have hj':j<es.length:=by have:=HL.out;omega
      have ei:(((j+1:Nat):Int)-1)=(j:Int):=by omega
      rw[ei];clear ei;have g0:=hd1.at0 j hj;have g1:=he1.at0 j hj';have q0:0≤(j:Int):=by omega
      go_upto_region 9 with(fail);refine wp_region_staged (fun w'=>Below W1.heap.size W1 w') [0,0,0,1,0,0,0,1,0] (by kernel_rfl) (by kernel_rfl) (by kernel_rfl) (by exact hbw.drew) ?_
      rcases Nat.lt_trichotomy ds[j] es[j]with hc|hc|hc
      · have HE:=hid (cmpN_lt (val_lt_at b32_2 H1.out hj hj' HL.out HD.out hc))
        have hlt:((ds[j]:Nat):Int)<((es[j]:Nat):Int):=by omega
        clear hc;apply lexF rfl;(· intro _;go_simp;(try go_bits);exact⟨rfl,rfl⟩);simp only[Act.put,List.setIfInBounds_toArray,List.set_cons_zero,List.set_cons_succ];apply lexF rfl;(· intro _;go_simp;(try go_bits);exact⟨rfl,rfl⟩);simp only[Act.put,List.setIfInBounds_toArray,List.set_cons_zero,List.set_cons_succ];apply lexF rfl;(· intro _;go_simp;(try go_bits);exact⟨rfl,rfl⟩);simp only[Act.put,List.setIfInBounds_toArray,List.set_cons_zero,List.set_cons_succ];apply lexH rfl;(· intro w' hw';have hcc:=cellsBelow hw';go_simp;(try go_bits);exact⟨rfl,hw'⟩);simp only[Act.put,List.setIfInBounds_toArray,List.set_cons_zero,List.set_cons_succ];apply lexF rfl;(· intro _;go_simp;(try go_bits);exact⟨rfl,rfl⟩);simp only[Act.put,List.setIfInBounds_toArray,List.set_cons_zero,List.set_cons_succ];apply lexF rfl;(· intro _;go_simp;(try go_bits);exact⟨rfl,rfl⟩);simp only[Act.put,List.setIfInBounds_toArray,List.set_cons_zero,List.set_cons_succ];apply lexF rfl;(· intro _;go_simp;(try go_bits);exact⟨rfl,rfl⟩);simp only[Act.put,List.setIfInBounds_toArray,List.set_cons_zero,List.set_cons_succ];apply lexH rfl;(· intro w' hw';have hcc:=cellsBelow hw';go_simp;(try go_bits);exact⟨rfl,hw'⟩);simp only[Act.put,List.setIfInBounds_toArray,List.set_cons_zero,List.set_cons_succ];apply lexF rfl;(· intro _;go_simp;(try go_bits);exact⟨rfl,rfl⟩);simp only[Act.put,List.setIfInBounds_toArray,List.set_cons_zero,List.set_cons_succ];refine lexEnd (fun w3 hw3=>?_);go_wp2;go_ret;exact⟨by rw[HE.out];rfl,hWb.trans (hw3.mono (by omega))⟩
      · have HE:=hid (drop_same hj hj' HD.out hc)
        rw[←hc]at g1;clear hc;apply lexF rfl;(· intro _;go_simp;(try go_bits);exact⟨rfl,rfl⟩);simp only[Act.put,List.setIfInBounds_toArray,List.set_cons_zero,List.set_cons_succ];apply lexF rfl;(· intro _;go_simp;(try go_bits);exact⟨rfl,rfl⟩);simp only[Act.put,List.setIfInBounds_toArray,List.set_cons_zero,List.set_cons_succ];apply lexF rfl;(· intro _;go_simp;(try go_bits);exact⟨rfl,rfl⟩);simp only[Act.put,List.setIfInBounds_toArray,List.set_cons_zero,List.set_cons_succ];apply lexH rfl;(· intro w' hw';have hcc:=cellsBelow hw';go_simp;(try go_bits);exact⟨rfl,hw'⟩);simp only[Act.put,List.setIfInBounds_toArray,List.set_cons_zero,List.set_cons_succ];apply lexF rfl;(· intro _;go_simp;(try go_bits);exact⟨rfl,rfl⟩);simp only[Act.put,List.setIfInBounds_toArray,List.set_cons_zero,List.set_cons_succ];apply lexF rfl;(· intro _;go_simp;(try go_bits);exact⟨rfl,rfl⟩);simp only[Act.put,List.setIfInBounds_toArray,List.set_cons_zero,List.set_cons_succ];apply lexF rfl;(· intro _;go_simp;(try go_bits);exact⟨rfl,rfl⟩);simp only[Act.put,List.setIfInBounds_toArray,List.set_cons_zero,List.set_cons_succ];apply lexH rfl;(· intro w' hw';have hcc:=cellsBelow hw';go_simp;(try go_bits);exact⟨rfl,hw'⟩);simp only[Act.put,List.setIfInBounds_toArray,List.set_cons_zero,List.set_cons_succ];apply lexF rfl;(· intro _;go_simp;(try go_bits);exact⟨rfl,rfl⟩);simp only[Act.put,List.setIfInBounds_toArray,List.set_cons_zero,List.set_cons_succ];refine lexEnd (fun w3 hw3=>?_);go_upto_region 11 with(fail);refine wp_region_staged (fun w'=>Below W1.heap.size W1 w') [0,0,0,1,0,0,0,1,0] (by kernel_rfl) (by kernel_rfl) (by kernel_rfl) (by exact hw3.drew) ?_;apply lexF rfl;(· intro _;go_simp;(try go_bits);exact⟨rfl,rfl⟩);simp only[Act.put,List.setIfInBounds_toArray,List.set_cons_zero,List.set_cons_succ];apply lexF rfl;(· intro _;go_simp;(try go_bits);exact⟨rfl,rfl⟩);simp only[Act.put,List.setIfInBounds_toArray,List.set_cons_zero,List.set_cons_succ];apply lexF rfl;(· intro _;go_simp;(try go_bits);exact⟨rfl,rfl⟩);simp only[Act.put,List.setIfInBounds_toArray,List.set_cons_zero,List.set_cons_succ]
        apply lexH rfl;(· intro w' hw';have hcc:=cellsBelow hw';go_simp;(try go_bits);exact⟨rfl,hw'⟩);simp only[Act.put,List.setIfInBounds_toArray,List.set_cons_zero,List.set_cons_succ];apply lexF rfl;(· intro _;go_simp;(try go_bits);exact⟨rfl,rfl⟩);simp only[Act.put,List.setIfInBounds_toArray,List.set_cons_zero,List.set_cons_succ];apply lexF rfl;(· intro _;go_simp;(try go_bits);exact⟨rfl,rfl⟩);simp only[Act.put,List.setIfInBounds_toArray,List.set_cons_zero,List.set_cons_succ];apply lexF rfl;(· intro _;go_simp;(try go_bits);exact⟨rfl,rfl⟩);simp only[Act.put,List.setIfInBounds_toArray,List.set_cons_zero,List.set_cons_succ];apply lexH rfl;(· intro w' hw';have hcc:=cellsBelow hw';go_simp;(try go_bits);exact⟨rfl,hw'⟩);simp only[Act.put,List.setIfInBounds_toArray,List.set_cons_zero,List.set_cons_succ];apply lexF rfl;(· intro _;go_simp;(try go_bits);exact⟨rfl,rfl⟩);simp only[Act.put,List.setIfInBounds_toArray,List.set_cons_zero,List.set_cons_succ];refine lexEnd (fun w4 hw4=>?_);go_wp2;go_roundw
        case rel=>exact⟨j,by omega,rfl,HE,hw4⟩
        case measure=>simp[intOf]
      · have HE:=hid (cmpN_gt (val_lt_at b32_2 H2.out hj' hj HL.out.symm HD.out.symm hc))
        have hlt:((es[j]:Nat):Int)<((ds[j]:Nat):Int):=by omega
        have hge:¬((ds[j]:Nat):Int)<((es[j]:Nat):Int):=by omega
        clear hc;apply lexF rfl;(· intro _;go_simp;(try go_bits);exact⟨rfl,rfl⟩);simp only[Act.put,List.setIfInBounds_toArray,List.set_cons_zero,List.set_cons_succ];apply lexF rfl;(· intro _;go_simp;(try go_bits);exact⟨rfl,rfl⟩);simp only[Act.put,List.setIfInBounds_toArray,List.set_cons_zero,List.set_cons_succ];apply lexF rfl;(· intro _;go_simp;(try go_bits);exact⟨rfl,rfl⟩);simp only[Act.put,List.setIfInBounds_toArray,List.set_cons_zero,List.set_cons_succ];apply lexH rfl;(· intro w' hw';have hcc:=cellsBelow hw';go_simp;(try go_bits);exact⟨rfl,hw'⟩);simp only[Act.put,List.setIfInBounds_toArray,List.set_cons_zero,List.set_cons_succ];apply lexF rfl;(· intro _;go_simp;(try go_bits);exact⟨rfl,rfl⟩);simp only[Act.put,List.setIfInBounds_toArray,List.set_cons_zero,List.set_cons_succ];apply lexF rfl;(· intro _;go_simp;(try go_bits);exact⟨rfl,rfl⟩);simp only[Act.put,List.setIfInBounds_toArray,List.set_cons_zero,List.set_cons_succ];apply lexF rfl;(· intro _;go_simp;(try go_bits);exact⟨rfl,rfl⟩);simp only[Act.put,List.setIfInBounds_toArray,List.set_cons_zero,List.set_cons_succ];apply lexH rfl;(· intro w' hw';have hcc:=cellsBelow hw';go_simp;(try go_bits);exact⟨rfl,hw'⟩);simp only[Act.put,List.setIfInBounds_toArray,List.set_cons_zero,List.set_cons_succ];apply lexF rfl;(· intro _;go_simp;(try go_bits);exact⟨rfl,rfl⟩);simp only[Act.put,List.setIfInBounds_toArray,List.set_cons_zero,List.set_cons_succ];refine lexEnd (fun w3 hw3=>?_);go_upto_region 11 with(fail);refine wp_region_staged (fun w'=>Below W1.heap.size W1 w') [0,0,0,1,0,0,0,1,0] (by kernel_rfl) (by kernel_rfl) (by kernel_rfl) (by exact hw3.drew) ?_;apply lexF rfl;(· intro _;go_simp;(try go_bits);exact⟨rfl,rfl⟩);simp only[Act.put,List.setIfInBounds_toArray,List.set_cons_zero,List.set_cons_succ];apply lexF rfl;(· intro _;go_simp;(try go_bits);exact⟨rfl,rfl⟩);simp only[Act.put,List.setIfInBounds_toArray,List.set_cons_zero,List.set_cons_succ];apply lexF rfl;(· intro _;go_simp;(try go_bits);exact⟨rfl,rfl⟩);simp only[Act.put,List.setIfInBounds_toArray,List.set_cons_zero,List.set_cons_succ]
        apply lexH rfl;(· intro w' hw';have hcc:=cellsBelow hw';go_simp;(try go_bits);exact⟨rfl,hw'⟩);simp only[Act.put,List.setIfInBounds_toArray,List.set_cons_zero,List.set_cons_succ];apply lexF rfl;(· intro _;go_simp;(try go_bits);exact⟨rfl,rfl⟩);simp only[Act.put,List.setIfInBounds_toArray,List.set_cons_zero,List.set_cons_succ];apply lexF rfl;(· intro _;go_simp;(try go_bits);exact⟨rfl,rfl⟩);simp only[Act.put,List.setIfInBounds_toArray,List.set_cons_zero,List.set_cons_succ];apply lexF rfl;(· intro _;go_simp;(try go_bits);exact⟨rfl,rfl⟩);simp only[Act.put,List.setIfInBounds_toArray,List.set_cons_zero,List.set_cons_succ];apply lexH rfl;(· intro w' hw';have hcc:=cellsBelow hw';go_simp;(try go_bits);exact⟨rfl,hw'⟩);simp only[Act.put,List.setIfInBounds_toArray,List.set_cons_zero,List.set_cons_succ];apply lexF rfl;(· intro _;go_simp;(try go_bits);exact⟨rfl,rfl⟩);simp only[Act.put,List.setIfInBounds_toArray,List.set_cons_zero,List.set_cons_succ];refine lexEnd (fun w4 hw4=>?_);go_wp2;go_ret;exact⟨by rw[HE.out];rfl,hWb.trans (hw4.mono (by omega))⟩
theorem cmp_any(v u:Value)(n m:Nat)(w:World)(hv:NatV w v n)(hu:NatV w u m)(h1:(digs B32 n).length≤1000000)(h2:(digs B32 m).length≤1000000):
    Calls Tryz.prog 41 #[v,u] w fun e w'=>e=.returned (.int .i64 (cmpN n m))∧Below w.heap.size w w':=by
  by_cases hl:(digs B32 n).length=(digs B32 m).length
  · rcases hv with⟨rfl,rfl⟩|⟨h0,g,c,rfl,hd,_⟩
    · have hm:m=0:=by
        rw[digs_zero]at hl;exact(digs_eq_nil b32_2).1 (List.eq_nil_of_length_eq_zero hl.symm)
      subst hm
      rcases hu with⟨_,rfl⟩|⟨h0,_⟩
      · exact cmp_zero w
      · exact absurd rfl h0
    · rcases hu with⟨rfl,rfl⟩|⟨h0',g',c',rfl,hd',_⟩
      · rw[digs_zero]at hl
        exact absurd (List.eq_nil_of_length_eq_zero hl) (digs_last_ne h0)
      · have:=cmp_same g g' c c' _ _ w hd hd' hl (digs_lt b32_2 n) (digs_lt b32_2 m) h1
        rw[val_digs b32_2,val_digs b32_2,hl]at this;rw[hl];exact this
  · obtain⟨p,c,rfl,_⟩:=hv.dig
    obtain⟨q,d,rfl,_⟩:=hu.dig;refine(cmp_len p q _ _ c d w hl h1 h2).mono fun e w' ⟨he,hb⟩=>⟨?_,hb⟩
    rw[he]
    by_cases hlt:(digs B32 n).length<(digs B32 m).length
    · rw[if_pos hlt,cmpN_lt (digs_len_mono b32_2 hlt)]
    · rw[if_neg hlt,cmpN_gt (digs_len_mono b32_2 (by omega))]
end Go.Proofs.YtlhbcopaakejgaaGreatDoor
namespace Go.Proofs.YtlhbcopaakejgaaGreatDoor
open Go.RowKit
def uCell(x:Nat):Value:=.int .u32 (x:Int)
def Arr(W:World)(D:Nat)(xs:List Nat):Prop:=W.heap[D]?=some (.cells (xs.map uCell).toArray 106 (0,0))
theorem Arr.lt{W:World}{D:Nat}{xs:List Nat}(h:Arr W D xs):D<W.heap.size:=(Array.getElem?_eq_some_iff.1 h).1
theorem Arr.cell{W:World}{D:Nat}{xs:List Nat}(h:Arr W D xs)(k:Nat)(hk:k<xs.length):W.cell? ⟨D,k,none⟩=some (.int .u32 (xs[k]:Int)):=by
  unfold World.cell?;rw[show W.heap[(⟨D,k,none⟩:Addr).block]?=_ from h];simp[hk,uCell]
theorem Arr.free{W:World}{D:Nat}{xs:List Nat}(h:Arr W D xs):∀o,W.frozen? ⟨D,o,none⟩=false:=by
  intro o;unfold World.frozen?;rw[show W.heap[(⟨D,o,none⟩:Addr).block]?=_ from h];simp
theorem Arr.dig{W:World}{D:Nat}{xs:List Nat}(h:Arr W D xs):DigIn W D xs:=⟨h.lt,h.cell⟩
theorem Arr.below{W W':World}{D:Nat}{xs:List Nat}(h:Arr W D xs)(hb:Below W.heap.size W W'):Arr W' D xs:=(hb.block _ h.lt).trans h
theorem Arr.store{W:World}{D:Nat}{xs:List Nat}(h:Arr W D xs)(k v:Nat):Arr (W.setCell ⟨D,k,none⟩ (.int .u32 (v:Int))) D (xs.set k v):=by
  unfold Arr;rw[heap_setCell_at h];simp[List.map_set,uCell]
theorem infoU:(Tryz.prog.info? 106).map (fun i=>(i.zero,i.size,i.bytes))=some (some (.int .u32 0),1,4):=by kernel_rfl
theorem arr_made{W:World}{base g n:Nat}(h:W.ownsRow base 106 1 (.slice (some ⟨g,0,none⟩) n n) n (madeCells (Value.int .u32 0).cells (n*1)).toList):Arr W g (List.replicate n 0):=by
  rcases h.2 with⟨e,_⟩|⟨g',cap,cur,e,_,hg,_,_,hs,ht⟩
  · cases e
  · injection e with e1 _ e3
    injection e1 with e1
    injection e1 with e1
    subst e1 e3
    have h1:cur.toList=List.replicate n (Value.int .u32 0):=by
      have h2:(madeCells (Value.int .u32 0).cells (n*1)).toList=List.replicate n (.int .u32 0):=by
        rw[Nat.mul_one];exact toList_madeCells_one _ n
      rw[h2,List.take_of_length_le (by rw[Array.length_toList,hs];omega)]at ht;exact ht
    unfold Arr;rw[hg]
    congr 2
    rw[←Array.toArray_toList (xs:=cur),h1,List.map_replicate];rfl
def DigP(W:World)(P:Option Addr)(ds:List Nat):Prop:=ds≠[]→ ∃g,P=some ⟨g,0,none⟩∧DigIn W g ds
theorem NatV.digp{W:World}{v:Value}{n:Nat}(h:NatV W v n):∃P c,v=.agg #[.slice P (digs B32 n).length c]∧DigP W P (digs B32 n):=by
  rcases h with⟨rfl,rfl⟩|⟨_,g,c,rfl,t,hc⟩
  · rw[digs_zero];exact⟨none,0,rfl,fun h=>absurd rfl h⟩
  · exact⟨_,c,rfl,fun _=>⟨g,rfl,t⟩⟩
theorem DigP.at{W:World}{P:Option Addr}{ds:List Nat}(h:DigP W P ds){k:Nat}(hk:k<ds.length):∃g,P=some ⟨g,0,none⟩∧DigIn W g ds:=h fun e=>by subst e;cases hk
theorem DigP.below{W W':World}{P:Option Addr}{ds:List Nat}(h:DigP W P ds)(hb:Below W.heap.size W W'):DigP W' P ds:=fun hn=>by
  obtain⟨g,e,t⟩:=h hn;exact⟨g,e,t.below hb⟩
theorem take_set{xs:List Nat}{k v:Nat}(hk:k<xs.length):(xs.set k v).take (k+1)=xs.take k++[v]:=by
  rw[List.take_succ_eq_append_getElem (by simpa using hk)];simp[List.take_set_of_le]
theorem val_take_set{B:Nat}{xs:List Nat}{k v:Nat}(hk:k<xs.length):val B ((xs.set k v).take (k+1))=val B (xs.take k)+B^k*v:=by
  rw[take_set hk,val_snoc,List.length_take,Nat.min_eq_left (by omega)]
theorem val_take_succ{B:Nat}{xs:List Nat}{k:Nat}(hk:k<xs.length):val B (xs.take (k+1))=val B (xs.take k)+B^k*xs[k]:=by
  rw[List.take_succ_eq_append_getElem hk,val_snoc,List.length_take,Nat.min_eq_left (by omega)]
theorem all_set{B:Nat}{xs:List Nat}{k v:Nat}(h:∀x∈xs,x<B)(hv:v<B):∀x∈xs.set k v,x<B:=fun x hx=>by
  rcases List.mem_or_eq_of_mem_set hx with h1|h1
  · exact h x h1
  · rw[h1];exact hv
set_option maxHeartbeats 400000 in
theorem add32_any(x y c:Nat)(w:World)(hx:x≤4294967295)(hy:y≤4294967295)(hc:c≤1):
    Calls Tryz.prog 125 #[.int .u32 (x:Int),.int .u32 (y:Int),.int .u32 (c:Int)] w fun e w'=>e=.returned (.tuple #[.int .u32 (((x+y+c)%4294967296:Nat):Int),.int .u32 (((x+y+c)/4294967296:Nat):Int)])∧w=w':=by
  go_enter Tryz.func125,Tryz.ntmps125;go_wp2;go_ret2;exact⟨by congr 3<;>(simp only[List.cons.injEq];refine⟨?_,?_,trivial⟩<;>(show Value.int .u32 _=Value.int .u32 _;congr 1<;>omega)),rfl⟩
end Go.Proofs.YtlhbcopaakejgaaGreatDoor
namespace Go.Proofs.YtlhbcopaakejgaaGreatDoor
open Go.RowKit
structure AddAt(W0:World)(D:Nat)(ds es:List Nat)(k cy:Nat)(wr:World):Prop where
  arr:∃xs:List Nat,Arr wr D xs∧xs.length=ds.length+1∧(∀x∈xs,x<B32)∧val B32 (xs.take k)+B32^k*cy=val B32 (ds.take k)+val B32 (es.take k)
  old:Below D W0 wr
  cy1:cy≤1
theorem add_step{W0 wr:World}{D:Nat}{ds es:List Nat}{k cy x y:Nat}(h:AddAt W0 D ds es k cy wr)(hk:k<ds.length)(hx:ds[k]=x)(hy:val B32 (es.take (k+1))=val B32 (es.take k)+B32^k*y)(hx1:x≤4294967295)(hy1:y≤4294967295):
    AddAt W0 D ds es (k+1) ((x+y+cy)/4294967296) (wr.setCell ⟨D,k,none⟩ (.int .u32 (((x+y+cy)%4294967296:Nat):Int))):=by
  have hcy:=h.cy1;obtain⟨⟨xs,h1,h2,h3,h4⟩,h5,h6⟩:=h;refine⟨⟨xs.set k ((x+y+cy)%4294967296),h1.store _ _,by simpa using h2,all_set h3 (by rw[b32];omega),?_⟩,h5.setCell (p:=⟨D,k,none⟩) (Nat.le_refl _) _,by omega⟩;have hp:B32^(k+1)=B32^k*4294967296:=by rw[Nat.pow_succ,b32]
  rw[val_take_set (by omega),val_take_succ hk,hy,hx,hp];generalize B32^k=p at*
  have e:p*(x+y+cy)=p*((x+y+cy)%4294967296)+p*4294967296*((x+y+cy)/4294967296):=by
    rw[Nat.mul_assoc, ←Nat.mul_add,Nat.mod_add_div]
  rw[Nat.mul_add,Nat.mul_add]at e;omega
theorem es_here{es:List Nat}{k:Nat}(h:k<es.length):val B32 (es.take (k+1))=val B32 (es.take k)+B32^k*es[k]:=val_take_succ h
theorem es_gone{es:List Nat}{k:Nat}(h:es.length≤k):val B32 (es.take (k+1))=val B32 (es.take k)+B32^k*0:=by
  rw[List.take_of_length_le (by omega),List.take_of_length_le h];simp
theorem box3_head(s s':Value)(w:World):∃W1,W1=((w.alloc (.cells #[s] 39)).alloc (.cells #[s'] 39)).alloc (.cells #[.slice none 0 0] 39)∧W1.heap.size=w.heap.size+3∧W1.heap[w.heap.size]?=some (.cells #[s] 39)∧W1.heap[w.heap.size+1]?=some (.cells #[s'] 39)∧
    W1.heap[w.heap.size+1+1]?=some (.cells #[.slice none 0 0] 39)∧Below w.heap.size w W1:=by
  obtain⟨W0,h0,h1,h2,h3,h4⟩:=box2_head s s' 39 39 w;refine⟨_,rfl,by simp,?_,?_,?_,?_⟩
  · rw[←h0];exact(Below.heap_alloc _ _ _ (by omega)).trans h2
  · rw[←h0];exact(Below.heap_alloc _ _ _ (by omega)).trans h3
  · rw[←h0]
    have:=heap_new W0 (.cells #[.slice none 0 0] 39);rw[h1]at this;exact this
  · rw[←h0];exact h4.alloc (by omega) _
theorem box_swap{w W0:World}{x y r:Value}{t:TypeId}(k0:W0.heap[w.heap.size]?=some (.cells #[x] t))(k1:W0.heap[w.heap.size+1]?=some (.cells #[y] t))(k2:W0.heap[w.heap.size+1+1]?=some (.cells #[r] t))(hb:Below w.heap.size w W0):
    ∃W1,W1=(W0.setCell ⟨w.heap.size,0,none⟩ y).setCell ⟨w.heap.size+1,0,none⟩ x∧W1.heap[w.heap.size]?=some (.cells #[y] t)∧W1.heap[w.heap.size+1]?=some (.cells #[x] t)∧W1.heap[w.heap.size+1+1]?=some (.cells #[r] t)∧Below w.heap.size w W1∧W1.heap.size=W0.heap.size:=by
  refine⟨_,rfl,?_,?_,?_,?_,?_⟩
  · rw[setCell_far _ (by omega)];exact box_store k0 y
  · exact box_store (by rw[setCell_far _ (by omega)];exact k1) x
  · rw[setCell_far _ (by omega),setCell_far _ (by omega)];exact k2
  · exact(hb.setCell (p:=⟨w.heap.size,0,none⟩) (Nat.le_refl _) _).setCell (p:=⟨w.heap.size+1,0,none⟩) (by show _≤w.heap.size+1;omega) _
  · simp[World.setCell]
theorem trim_arr{w:World}{D:Nat}{xs:List Nat}(h:Arr w D xs)(hb:∀x∈xs,x<B32)(hl:xs.length≤1000000):
    Calls Tryz.prog 100 #[.slice (some ⟨D,0,none⟩) xs.length xs.length] w fun e w'=> ∃p c,e=.returned (.agg #[.slice p (digs B32 (val B32 xs)).length c])∧NatV w' (.agg #[.slice p (digs B32 (val B32 xs)).length c]) (val B32 xs)∧Below w.heap.size w w':=
  (trim_any _ xs w (.inr ⟨D,_,rfl,h.dig,Nat.le_refl _,by omega⟩) hb hl).mono fun e w' ⟨v,h1,h2,h3⟩=>by
    obtain⟨p,c,rfl,_⟩:=h2.dig;exact⟨p,c,h1,h2,h3⟩
set_option maxRecDepth 100000 in
set_option maxHeartbeats 2000000 in
theorem add_core(P Q:Option Addr)(c c':Nat)(ds es:List Nat)(w:World)(hd:DigP w P ds)(he:DigP w Q es)(h1:∀d∈ds,d<B32)(h2:∀d∈es,d<B32)(hl:ds.length<1000000)(hle:es.length≤ds.length):
    Calls Tryz.prog 86 #[.agg #[.slice P ds.length c],.agg #[.slice Q es.length c']] w fun e w'=> ∃v,e=.returned v∧NatV w' v (val B32 ds+val B32 es)∧Below w.heap.size w w':=by
  obtain⟨i0,hi,hz0,hz1,hz2⟩:=info_parts infoU;have H1:=hid h1;have H2:=hid h2;have hge:¬(ds.length:Int)<(es.length:Int):=by omega
  clear h1 h2;go_enter Tryz.func86,Tryz.ntmps86;go_upto_region 1 with(fail);obtain⟨W1,hW1,hsz,kA,kB,kR,hWb⟩:=box3_head (.slice P ds.length c) (.slice Q es.length c') w;have hd1:=hd.below hWb;have he1:=he.below hWb;rw[←hW1];have b1:w.heap.size<W1.heap.size:=by omega
  have b2:w.heap.size+1<W1.heap.size:=by omega
  have b3:w.heap.size+1+1<W1.heap.size:=by omega
  clear hW1 hsz hd he;have a0:=cell_box1 kA;have a1:=cell_box1 kB;go_wp2_with (at_make;refine wpList_make_full _ rfl _ _ _ rfl W1.heap.size 106 i0 _ 1 Tryz.underlying37 hi hz0 hz1 _ _ _ _ (ds.length+1) rfl rfl (by simp) (by simp) (by rw[hz2];omega) (by unfold maxLen;omega) (Nat.le_refl _) ?_;intro w2 hown hgr;have hb2:Below W1.heap.size W1 w2:=(Below.refl _ W1).grown hgr (Nat.le_refl _) (by simp);have hA:=arr_made hown;clear hown hgr;have hcc:=cellsBelow hb2);clear hcc;have hA0:AddAt W1 W1.heap.size ds es 0 0 w2:=⟨⟨_,hA,by simp,fun x hx=>by rw[List.eq_of_mem_replicate hx,b32];omega,by simp[val]⟩,hb2,by omega⟩;clear hA hb2;go_loopw [6,27] (fun cy i wr=> ∃k cn:Nat,k≤ds.length∧i=.int .i64 k∧cy=.int .u32 (cn:Int)∧AddAt W1 W1.heap.size ds es k cn wr) (fun _ i _=>ds.length-(intOf i).toNat)
  case atStart=>exact⟨0,0,Nat.zero_le _,rfl,rfl,hA0⟩
  case round=>
    clear hA0;obtain⟨k,cn,hk,rfl,rfl,hat⟩:=hrel;have hcc:=cellsBelow hat.old
    by_cases hlt:k<ds.length
    · obtain⟨g,rfl,hdg⟩:=hd1.at hlt
      have hgl:=hdg.lt;have g0:=hdg.at0 k hlt;have hx1:ds[k]≤4294967295:=by have:=H1.out _ (List.getElem_mem hlt);rw[b32]at this;omega
      obtain⟨x,hx⟩:∃x,ds[k]=x:=⟨_,rfl⟩;rw[hx]at g0 hx1;have HX:=hid hx;have hcy:=hat.cy1;obtain⟨xs,hxs,hxl,_⟩:=hat.arr;have hfr:=hxs.free;have c0:=hxs.cell k (by omega);clear hx
      by_cases hlt2:k<es.length
      · obtain⟨g',rfl,heg⟩:=he1.at hlt2
        have hgl':=heg.lt;have g1:=heg.at0 k hlt2;have hy1:es[k]≤4294967295:=by have:=H2.out _ (List.getElem_mem hlt2);rw[b32]at this;omega
        have HS:=hid (add_step hat hlt HX.out (es_here hlt2) hx1 hy1);obtain⟨y,hy⟩:∃y,es[k]=y:=⟨_,rfl⟩;rw[hy]at g1 hy1 HS;clear hy;go_wp2_with (go_at_call 125;refine(add32_any x y cn _ hx1 hy1 hcy).mono ?_;rintro e w' ⟨rfl,rfl⟩);go_roundw
        case rel=>exact⟨k+1,_,by omega,by go_num,rfl,HS.out⟩
        case measure=>simp[intOf];omega
      · have HS:=hid (add_step hat hlt HX.out (es_gone (Nat.le_of_not_lt hlt2)) hx1 (by omega:0≤4294967295))
        have hge2:¬(k:Int)<(es.length:Int):=by omega
        go_wp2_with (go_at_call 125;refine(add32_any x 0 cn _ hx1 (by omega) hcy).mono ?_;rintro e w' ⟨rfl,rfl⟩);go_roundw
        case rel=>exact⟨k+1,_,by omega,by go_num,rfl,HS.out⟩
        case measure=>simp[intOf];omega
    · obtain rfl:k=ds.length:=by omega
      obtain⟨xs,hxs,hxl,hxb,hxv⟩:=hat.arr;have hfr:=hxs.free;have c0:=hxs.cell ds.length (by omega);have hold:=hat.old;clear hcc;have hcc:=cellsBelow hold
      have HV:=hid (show val B32 (xs.set ds.length cn)=val B32 ds+val B32 es by
        have e1:=val_take_set (B:=B32) (v:=cn) (show ds.length<xs.length by omega);rw[List.take_of_length_le (by rw[List.length_set];omega)]at e1;rw[e1,hxv,List.take_length,List.take_of_length_le (l:=es) hle])
      have hxs':=hxs.store ds.length cn;have hb':=hold.setCell (p:=⟨W1.heap.size,ds.length,none⟩) (Nat.le_refl _) (.int .u32 (cn:Int));have HT:=hid (trim_arr hxs' (all_set hxb (by have:=hat.cy1;rw[b32];omega)) (by simp;omega));have hl':(xs.set ds.length cn).length=ds.length+1:=by simp[hxl]
      rw[HV.out,hl']at HT;clear hxv hat;go_wp2_with (go_at_call 100;refine HT.out.mono ?_;clear HT;rintro e w3 ⟨p,c3,rfl,hv,hw3⟩;have hb3:=hb'.trans (hw3.mono hb'.size);have hR2:=(hb3.block _ b3).trans kR;have hc2:=cell_box1 hR2;have hf2:=free_box1 hR2);have hc3:=res_store hR2 (.slice p (digs B32 (val B32 ds+val B32 es)).length c3);refine bodyPost_ret (v:=.agg #[.slice p (digs B32 (val B32 ds+val B32 es)).length c3]) (by simp[results,Tryz.results86,go_sem,hc3]) rfl ⟨_,rfl,hv.store hc2 _,?_⟩;exact(hWb.trans (hb3.mono (by omega))).setCell (p:=⟨w.heap.size+1+1,0,none⟩) (by show _≤w.heap.size+1+1;omega) _
set_option maxRecDepth 100000 in
set_option maxHeartbeats 2000000 in
theorem add_swap(P Q:Option Addr)(c c':Nat)(ds es:List Nat)(w:World)(hd:DigP w P ds)(he:DigP w Q es)(h1:∀d∈ds,d<B32)(h2:∀d∈es,d<B32)(hl:ds.length<1000000)(hlt0:es.length<ds.length):
    Calls Tryz.prog 86 #[.agg #[.slice Q es.length c'],.agg #[.slice P ds.length c]] w fun e w'=> ∃v,e=.returned v∧NatV w' v (val B32 ds+val B32 es)∧Below w.heap.size w w':=by
  obtain⟨i0,hi,hz0,hz1,hz2⟩:=info_parts infoU;have H1:=hid h1;have H2:=hid h2;have hle:es.length≤ds.length:=by omega
  clear h1 h2;go_enter Tryz.func86,Tryz.ntmps86;go_upto_region 1 with(fail);obtain⟨W0,hW0,hsz,kA0,kB0,kR0,hWb0⟩:=box3_head (.slice Q es.length c') (.slice P ds.length c) w;rw[←hW0];have b1:w.heap.size<W0.heap.size:=by omega
  have b2:w.heap.size+1<W0.heap.size:=by omega
  have b3:w.heap.size+1+1<W0.heap.size:=by omega
  clear hW0 hsz;have a00:=cell_box1 kA0;have a10:=cell_box1 kB0;have f00:=free_box1 kA0;have f10:=free_box1 kB0;have hne:w.heap.size+1≠w.heap.size:=by omega
  have hne':w.heap.size≠w.heap.size+1:=by omega
  have hlti:(es.length:Int)<(ds.length:Int):=by omega
  go_upto_region 3 with(fail);obtain⟨W1,hW1,kA,kB,kR,hWb,hsz⟩:=box_swap kA0 kB0 kR0 hWb0;rw[←hW1];have hd1:=hd.below hWb;have he1:=he.below hWb;rw[←hsz]at b1 b2 b3;clear hW1 hsz hd he a00 a10 f00 f10 kA0 kB0 kR0 hWb0;have a0:=cell_box1 kA;have a1:=cell_box1 kB;go_wp2_with (at_make;refine wpList_make_full _ rfl _ _ _ rfl W1.heap.size 106 i0 _ 1 Tryz.underlying37 hi hz0 hz1 _ _ _ _ (ds.length+1) rfl rfl (by simp) (by simp) (by rw[hz2];omega) (by unfold maxLen;omega) (Nat.le_refl _) ?_;intro w2 hown hgr;have hb2:Below W1.heap.size W1 w2:=(Below.refl _ W1).grown hgr (Nat.le_refl _) (by simp);have hA:=arr_made hown;clear hown hgr;have hcc:=cellsBelow hb2);clear hcc;have hA0:AddAt W1 W1.heap.size ds es 0 0 w2:=⟨⟨_,hA,by simp,fun x hx=>by rw[List.eq_of_mem_replicate hx,b32];omega,by simp[val]⟩,hb2,by omega⟩;clear hA hb2;go_loopw [6,27] (fun cy i wr=> ∃k cn:Nat,k≤ds.length∧i=.int .i64 k∧cy=.int .u32 (cn:Int)∧AddAt W1 W1.heap.size ds es k cn wr) (fun _ i _=>ds.length-(intOf i).toNat)
  case atStart=>exact⟨0,0,Nat.zero_le _,rfl,rfl,hA0⟩
  case round=>
    clear hA0;obtain⟨k,cn,hk,rfl,rfl,hat⟩:=hrel;have hcc:=cellsBelow hat.old
    by_cases hlt:k<ds.length
    · obtain⟨g,rfl,hdg⟩:=hd1.at hlt
      have hgl:=hdg.lt;have g0:=hdg.at0 k hlt;have hx1:ds[k]≤4294967295:=by have:=H1.out _ (List.getElem_mem hlt);rw[b32]at this;omega
      obtain⟨x,hx⟩:∃x,ds[k]=x:=⟨_,rfl⟩;rw[hx]at g0 hx1;have HX:=hid hx;have hcy:=hat.cy1;obtain⟨xs,hxs,hxl,_⟩:=hat.arr;have hfr:=hxs.free;have c0:=hxs.cell k (by omega);clear hx
      by_cases hlt2:k<es.length
      · obtain⟨g',rfl,heg⟩:=he1.at hlt2
        have hgl':=heg.lt;have g1:=heg.at0 k hlt2;have hy1:es[k]≤4294967295:=by have:=H2.out _ (List.getElem_mem hlt2);rw[b32]at this;omega
        have HS:=hid (add_step hat hlt HX.out (es_here hlt2) hx1 hy1);obtain⟨y,hy⟩:∃y,es[k]=y:=⟨_,rfl⟩;rw[hy]at g1 hy1 HS;clear hy;go_wp2_with (go_at_call 125;refine(add32_any x y cn _ hx1 hy1 hcy).mono ?_;rintro e w' ⟨rfl,rfl⟩);go_roundw
        case rel=>exact⟨k+1,_,by omega,by go_num,rfl,HS.out⟩
        case measure=>simp[intOf];omega
      · have HS:=hid (add_step hat hlt HX.out (es_gone (Nat.le_of_not_lt hlt2)) hx1 (by omega:0≤4294967295))
        have hge2:¬(k:Int)<(es.length:Int):=by omega
        go_wp2_with (go_at_call 125;refine(add32_any x 0 cn _ hx1 (by omega) hcy).mono ?_;rintro e w' ⟨rfl,rfl⟩);go_roundw
        case rel=>exact⟨k+1,_,by omega,by go_num,rfl,HS.out⟩
        case measure=>simp[intOf];omega
    · obtain rfl:k=ds.length:=by omega
      obtain⟨xs,hxs,hxl,hxb,hxv⟩:=hat.arr;have hfr:=hxs.free;have c0:=hxs.cell ds.length (by omega);have hold:=hat.old;clear hcc;have hcc:=cellsBelow hold
      have HV:=hid (show val B32 (xs.set ds.length cn)=val B32 ds+val B32 es by
        have e1:=val_take_set (B:=B32) (v:=cn) (show ds.length<xs.length by omega);rw[List.take_of_length_le (by rw[List.length_set];omega)]at e1;rw[e1,hxv,List.take_length,List.take_of_length_le (l:=es) hle])
      have hxs':=hxs.store ds.length cn;have hb':=hold.setCell (p:=⟨W1.heap.size,ds.length,none⟩) (Nat.le_refl _) (.int .u32 (cn:Int));have HT:=hid (trim_arr hxs' (all_set hxb (by have:=hat.cy1;rw[b32];omega)) (by simp;omega));have hl':(xs.set ds.length cn).length=ds.length+1:=by simp[hxl]
      rw[HV.out,hl']at HT;clear hxv hat;go_wp2_with (go_at_call 100;refine HT.out.mono ?_;clear HT;rintro e w3 ⟨p,c3,rfl,hv,hw3⟩;have hb3:=hb'.trans (hw3.mono hb'.size);have hR2:=(hb3.block _ b3).trans kR;have hc2:=cell_box1 hR2;have hf2:=free_box1 hR2);have hc3:=res_store hR2 (.slice p (digs B32 (val B32 ds+val B32 es)).length c3);refine bodyPost_ret (v:=.agg #[.slice p (digs B32 (val B32 ds+val B32 es)).length c3]) (by simp[results,Tryz.results86,go_sem,hc3]) rfl ⟨_,rfl,hv.store hc2 _,?_⟩;exact(hWb.trans (hb3.mono (by omega))).setCell (p:=⟨w.heap.size+1+1,0,none⟩) (by show _≤w.heap.size+1+1;omega) _
theorem add_any(v u:Value)(n m:Nat)(w:World)(hv:NatV w v n)(hu:NatV w u m)(h1:(digs B32 n).length<1000000)(h2:(digs B32 m).length<1000000):
    Calls Tryz.prog 86 #[v,u] w fun e w'=> ∃x,e=.returned x∧NatV w' x (n+m)∧Below w.heap.size w w':=by
  obtain⟨P,c,rfl,hp⟩:=hv.digp;obtain⟨Q,c',rfl,hq⟩:=hu.digp
  by_cases hle:(digs B32 m).length≤(digs B32 n).length
  · have:=add_core P Q c c' _ _ w hp hq (digs_lt b32_2 n) (digs_lt b32_2 m) h1 hle
    rwa [val_digs b32_2,val_digs b32_2]at this
  · have:=add_swap Q P c' c _ _ w hq hp (digs_lt b32_2 m) (digs_lt b32_2 n) h2 (by omega)
    rwa [val_digs b32_2,val_digs b32_2,Nat.add_comm m n]at this
end Go.Proofs.YtlhbcopaakejgaaGreatDoor
namespace Go.Proofs.YtlhbcopaakejgaaGreatDoor
open Go.RowKit
theorem not_bit(x:Nat):(4294967295^^^x).testBit 31= !x.testBit 31:=by
  rw[Nat.testBit_xor,show Nat.testBit 4294967295 31=true from by decide];simp
theorem bit_top(v:Nat)(hv:v<4294967296):v/2147483648=if v.testBit 31 then 1 else 0:=by
  rw[Nat.testBit_eq_decide_div_mod_eq]
  by_cases h:v/2^31%2=1
  · simp only[h,decide_true,if_true];omega
  · simp only[h,decide_false,Bool.false_eq_true,if_false];omega
theorem borrow_bit(x y b:Nat)(hx:x<4294967296)(hy:y<4294967296)(hb:b≤1):
    (((4294967295^^^x)&&&y)|||((4294967295^^^(x^^^y))&&&((x+4294967296-y-b)%4294967296)))/2147483648=if x<y+b then 1 else 0:=by
  have hd:(x+4294967296-y-b)%4294967296<4294967296:=Nat.mod_lt _ (by omega);have hxy:x^^^y<4294967296:=Nat.xor_lt_two_pow (n:=32) hx hy;rw[bit_top _ (Nat.or_lt_two_pow (n:=32) (Nat.and_lt_two_pow _ hy) (Nat.and_lt_two_pow _ hd)),Nat.testBit_or,Nat.testBit_and,Nat.testBit_and,not_bit,not_bit,Nat.testBit_xor];generalize hdd:(x+4294967296-y-b)%4294967296=d at*;simp only[Nat.testBit_eq_decide_div_mod_eq]
  by_cases h1:x/2^31%2=1<;>by_cases h2:y/2^31%2=1<;>by_cases h3:d/2^31%2=1<;>simp[h1,h2,h3]<;>omega
def borrowI(x y:Int)(d:Int):Int:=bits BinOp.or IntKind.u32 (bits BinOp.and IntKind.u32 (bits BinOp.xor IntKind.u32 IntKind.u32.max x) y) (bits BinOp.and IntKind.u32 (bits BinOp.xor IntKind.u32 IntKind.u32.max (bits BinOp.xor IntKind.u32 x y)) d)/2147483648
theorem borrow_nat(x y b:Nat)(hx:x<4294967296)(hy:y<4294967296)(hb:b≤1):borrowI x y (((x:Int)-y-b)%4294967296)=((if x<y+b then 1 else 0:Nat):Int):=by
  have hd:(x+4294967296-y-b)%4294967296<4294967296:=Nat.mod_lt _ (by omega);have hxy:x^^^y<4294967296:=Nat.xor_lt_two_pow (n:=32) hx hy;have hm:∀z:Nat,z<4294967296→4294967295^^^z<4294967296:=fun z hz=>Nat.xor_lt_two_pow (n:=32) (by omega) hz
  have h:=borrow_bit x y b hx hy hb;have e:((x:Int)-y-b)%4294967296=(((x+4294967296-y-b)%4294967296:Nat):Int):=by omega
  have em:IntKind.u32.max=((4294967295:Nat):Int):=by decide
  unfold borrowI;rw[e,em,u32_xor_nat _ _ (by omega) hx,u32_and_nat _ _ (hm _ hx) hy,u32_xor_nat _ _ hx hy,u32_xor_nat _ _ (by omega) hxy,u32_and_nat _ _ (hm _ hxy) hd,u32_or_nat _ _ (Nat.and_lt_two_pow (n:=32) _ hy) (Nat.and_lt_two_pow (n:=32) _ hd), ←h];omega
set_option maxHeartbeats 1000000 in
theorem sub32_raw(x y b:Nat)(w:World)(_hx:x≤4294967295)(_hy:y≤4294967295)(_hb:b≤1):
    Calls Tryz.prog 126 #[.int .u32 (x:Int),.int .u32 (y:Int),.int .u32 (b:Int)] w fun e w'=>e=.returned (.tuple #[.int .u32 (((x:Int)-y-b)%4294967296),.int .u32 (borrowI x y (((x:Int)-y-b)%4294967296))])∧w=w':=by
  go_enter Tryz.func126,Tryz.ntmps126;go_wp2;go_ret2;exact⟨rfl,rfl⟩
theorem sub32_any(x y b:Nat)(w:World)(hx:x≤4294967295)(hy:y≤4294967295)(hb:b≤1):
    Calls Tryz.prog 126 #[.int .u32 (x:Int),.int .u32 (y:Int),.int .u32 (b:Int)] w fun e w'=>e=.returned (.tuple #[.int .u32 (((x+4294967296-y-b)%4294967296:Nat):Int),.int .u32 ((if x<y+b then 1 else 0:Nat):Int)])∧w=w':=
  (sub32_raw x y b w hx hy hb).mono fun e w' ⟨h1,h2⟩=>⟨by
    rw[h1,borrow_nat x y b (by omega) (by omega) hb,show((x:Int)-y-b)%4294967296=(((x+4294967296-y-b)%4294967296:Nat):Int) by omega],h2⟩
structure SubAt(W0:World)(D:Nat)(ds es:List Nat)(k b:Nat)(wr:World):Prop where
  arr:∃xs:List Nat,Arr wr D xs∧xs.length=ds.length∧(∀x∈xs,x<B32)∧val B32 (xs.take k)+val B32 (es.take k)=val B32 (ds.take k)+B32^k*b
  old:Below D W0 wr
  b1:b≤1
theorem sub_step{W0 wr:World}{D:Nat}{ds es:List Nat}{k b x y:Nat}(h:SubAt W0 D ds es k b wr)(hk:k<ds.length)(hx:ds[k]=x)(hy:val B32 (es.take (k+1))=val B32 (es.take k)+B32^k*y)(hx1:x≤4294967295)(hy1:y≤4294967295):
    SubAt W0 D ds es (k+1) (if x<y+b then 1 else 0) (wr.setCell ⟨D,k,none⟩ (.int .u32 (((x+4294967296-y-b)%4294967296:Nat):Int))):=by
  have hcy:=h.b1;obtain⟨⟨xs,h1,h2,h3,h4⟩,h5,h6⟩:=h;refine⟨⟨xs.set k ((x+4294967296-y-b)%4294967296),h1.store _ _,by simpa using h2,all_set h3 (by rw[b32];omega),?_⟩,h5.setCell (p:=⟨D,k,none⟩) (Nat.le_refl _) _,by split<;>omega⟩;have hp:B32^(k+1)=B32^k*4294967296:=by rw[Nat.pow_succ,b32]
  rw[val_take_set (by omega),val_take_succ hk,hy,hx,hp];generalize B32^k=p at*
  by_cases hlt:x<y+b
  · rw[if_pos hlt,show(x+4294967296-y-b)%4294967296=x+4294967296-y-b by omega]
    have e:p*(x+4294967296-y-b)+p*y+p*b=p*x+p*4294967296:=by
      rw[←Nat.mul_add, ←Nat.mul_add, ←Nat.mul_add];congr 1;omega
    omega
  · rw[if_neg hlt,show(x+4294967296-y-b)%4294967296=x-y-b by omega]
    have e:p*(x-y-b)+p*y+p*b=p*x:=by
      rw[←Nat.mul_add, ←Nat.mul_add];congr 1;omega
    omega
set_option maxRecDepth 100000 in
set_option maxHeartbeats 2000000 in
theorem sub_core(P Q:Option Addr)(c c':Nat)(ds es:List Nat)(w:World)(hd:DigP w P ds)(he:DigP w Q es)(h1:∀d∈ds,d<B32)(h2:∀d∈es,d<B32)(hl:ds.length<1000000)(hle:es.length≤ds.length)(hcmp:∀w1,Below w.heap.size w w1→Calls Tryz.prog 41 #[.agg #[.slice P ds.length c],.agg #[.slice Q es.length c']] w1 fun e w'=> ∃j:Int,0≤j∧e=.returned (.int .i64 j)∧Below w1.heap.size w1 w')(hv:val B32 es≤val B32 ds):
    Calls Tryz.prog 87 #[.agg #[.slice P ds.length c],.agg #[.slice Q es.length c']] w fun e w'=> ∃v,e=.returned (.tuple #[v,.int .i64 0])∧NatV w' v (val B32 ds-val B32 es)∧Below w.heap.size w w':=by
  obtain⟨i0,hi,hz0,hz1,hz2⟩:=info_parts infoU;have H1:=hid h1;have H2:=hid h2;have HC:=hid hcmp;have HVL:=hid hv;clear h1 h2 hcmp hv;go_enter Tryz.func87,Tryz.ntmps87;go_upto_region 1 with(fail);obtain⟨W0,hW0,hsz,kA0,kB0,kR0,hWb0⟩:=box3_head (.slice P ds.length c) (.slice Q es.length c') w;rw[←hW0];have b1:w.heap.size<W0.heap.size:=by omega
  have b2:w.heap.size+1<W0.heap.size:=by omega
  have b3:w.heap.size+1+1<W0.heap.size:=by omega
  clear hW0 hsz;have a00:=cell_box1 kA0;have a10:=cell_box1 kB0;have HCW:=hid (HC.out W0 hWb0);go_upto_region 3 with(go_at_call 41;refine HCW.out.mono ?_;clear HCW;rintro e W1 ⟨j,hj,rfl,hw1⟩;have hjn:¬(j<0):=(by omega));have kA:=(hw1.block _ b1).trans kA0;have kB:=(hw1.block _ b2).trans kB0;have kR:=(hw1.block _ b3).trans kR0;have hWb:=hWb0.trans (hw1.mono hWb0.size);have hd1:=hd.below hWb;have he1:=he.below hWb;have hs1:=hw1.size;replace b1:=Nat.lt_of_lt_of_le b1 hs1;replace b2:=Nat.lt_of_lt_of_le b2 hs1;replace b3:=Nat.lt_of_lt_of_le b3 hs1;clear hd he a00 a10 kA0 kB0 kR0 hWb0 HC hw1 hs1;have a0:=cell_box1 kA;have a1:=cell_box1 kB;go_wp2_with (at_make;refine wpList_make_full _ rfl _ _ _ rfl W1.heap.size 106 i0 _ 1 Tryz.underlying37 hi hz0 hz1 _ _ _ _ ds.length rfl rfl (by simp) (by simp) (by rw[hz2];omega) (by unfold maxLen;omega) (Nat.le_refl _) ?_;intro w2 hown hgr;have hb2:Below W1.heap.size W1 w2:=(Below.refl _ W1).grown hgr (Nat.le_refl _) (by simp);have hA:=arr_made hown;clear hown hgr;have hcc:=cellsBelow hb2);clear hcc;have hA0:SubAt W1 W1.heap.size ds es 0 0 w2:=⟨⟨_,hA,by simp,fun x hx=>by rw[List.eq_of_mem_replicate hx,b32];omega,by simp[val]⟩,hb2,by omega⟩;clear hA hb2;go_loopw [7,23] (fun cy i wr=> ∃k cn:Nat,k≤ds.length∧i=.int .i64 k∧cy=.int .u32 (cn:Int)∧SubAt W1 W1.heap.size ds es k cn wr) (fun _ i _=>ds.length-(intOf i).toNat)
  case atStart=>exact⟨0,0,Nat.zero_le _,rfl,rfl,hA0⟩
  case round=>
    clear hA0;obtain⟨k,cn,hk,rfl,rfl,hat⟩:=hrel;have hcc:=cellsBelow hat.old
    by_cases hlt:k<ds.length
    · obtain⟨g,rfl,hdg⟩:=hd1.at hlt
      have hgl:=hdg.lt;have g0:=hdg.at0 k hlt;have hx1:ds[k]≤4294967295:=by have:=H1.out _ (List.getElem_mem hlt);rw[b32]at this;omega
      obtain⟨x,hx⟩:∃x,ds[k]=x:=⟨_,rfl⟩;rw[hx]at g0 hx1;have HX:=hid hx;have hcy:=hat.b1;obtain⟨xs,hxs,hxl,_⟩:=hat.arr;have hfr:=hxs.free;have c0:=hxs.cell k (by omega);clear hx
      by_cases hlt2:k<es.length
      · obtain⟨g',rfl,heg⟩:=he1.at hlt2
        have hgl':=heg.lt;have g1:=heg.at0 k hlt2;have hy1:es[k]≤4294967295:=by have:=H2.out _ (List.getElem_mem hlt2);rw[b32]at this;omega
        have HS:=hid (sub_step hat hlt HX.out (es_here hlt2) hx1 hy1);obtain⟨y,hy⟩:∃y,es[k]=y:=⟨_,rfl⟩;rw[hy]at g1 hy1 HS;clear hy;obtain⟨bb,hbb⟩:∃bb,(if x<y+cn then 1 else 0)=bb:=⟨_,rfl⟩;have HB:=hid (sub32_any x y cn);rw[hbb]at HS HB;clear hbb;go_wp2_with (go_at_call 126;refine(HB.out _ hx1 hy1 hcy).mono ?_;clear HB;rintro e w' ⟨rfl,rfl⟩);go_roundw
        case rel=>exact⟨k+1,_,by omega,by go_num,rfl,HS.out⟩
        case measure=>simp[intOf];omega
      · have HS:=hid (sub_step hat hlt HX.out (es_gone (Nat.le_of_not_lt hlt2)) hx1 (by omega:0≤4294967295))
        have hge2:¬(k:Int)<(es.length:Int):=by omega
        obtain⟨bb,hbb⟩:∃bb,(if x<0+cn then 1 else 0)=bb:=⟨_,rfl⟩;have HB:=hid (sub32_any x 0 cn);rw[hbb]at HS HB;clear hbb;go_wp2_with (go_at_call 126;refine(HB.out _ hx1 (by omega) hcy).mono ?_;clear HB;rintro e w' ⟨rfl,rfl⟩);go_roundw
        case rel=>exact⟨k+1,_,by omega,by go_num,rfl,HS.out⟩
        case measure=>simp[intOf];omega
    · obtain rfl:k=ds.length:=by omega
      obtain⟨xs,hxs,hxl,hxb,hxv⟩:=hat.arr;have hold:=hat.old;have hcc:=cellsBelow hold
      have HV:=hid (show val B32 xs=val B32 ds-val B32 es by
        have hvl:=HVL.out;have hb1:=hat.b1;rw[←hxl,List.take_length,hxl,List.take_length,List.take_of_length_le (l:=es) hle]at hxv;have h3:=val_lt b32_2 hxb;rw[hxl]at h3;generalize B32^ds.length=p at*
        match cn,hb1 with
        |0,_=>omega
        |1,_=>omega)
      have HT:=hid (trim_arr hxs hxb (by omega));rw[HV.out,hxl]at HT;clear hxv hat;go_wp2_with (go_at_call 100;refine HT.out.mono ?_;clear HT;rintro e w3 ⟨p,c3,rfl,hv,hw3⟩;have hb3:=hold.trans (hw3.mono hold.size);have hR2:=(hb3.block _ b3).trans kR;have hc2:=cell_box1 hR2;have hf2:=free_box1 hR2);have hc3:=res_store hR2 (.slice p (digs B32 (val B32 ds-val B32 es)).length c3);refine bodyPost_ret (v:=.tuple #[.agg #[.slice p (digs B32 (val B32 ds-val B32 es)).length c3],.int .i64 0]) (by simp[results,Tryz.results87,go_sem,hc3]) rfl ⟨_,rfl,hv.store hc2 _,?_⟩;exact(hWb.trans (hb3.mono (by omega))).setCell (p:=⟨w.heap.size+1+1,0,none⟩) (by show _≤w.heap.size+1+1;omega) _
set_option maxHeartbeats 1000000 in
theorem sub_err(v u:Value)(n m:Nat)(w:World)(hv:NatV w v n)(hu:NatV w u m)(h1:(digs B32 n).length<1000000)(h2:(digs B32 m).length<1000000)(hlt:n<m):
    Calls Tryz.prog 87 #[v,u] w fun e w'=>e=.returned (.tuple #[.agg #[.slice none 0 0],.int .i64 2])∧Below w.heap.size w w':=by
  have HC:=hid (fun w1 (hb:Below w.heap.size w w1)=>cmp_any v u n m w1 (hv.below hb) (hu.below hb) (by omega) (by omega));rw[cmpN_lt hlt]at HC;obtain⟨P,c,rfl,hp⟩:=hv.digp;obtain⟨Q,c',rfl,hq⟩:=hu.digp;clear hp hq hv hu hlt;go_enter Tryz.func87,Tryz.ntmps87;go_upto_region 1 with(fail);obtain⟨W0,hW0,hsz,kA0,kB0,kR0,hWb0⟩:=box3_head (.slice P (digs B32 n).length c) (.slice Q (digs B32 m).length c') w;rw[←hW0];have b1:w.heap.size<W0.heap.size:=by omega
  have b2:w.heap.size+1<W0.heap.size:=by omega
  have b3:w.heap.size+1+1<W0.heap.size:=by omega
  clear hW0 hsz;have a00:=cell_box1 kA0;have a10:=cell_box1 kB0;have HCW:=hid (HC.out W0 hWb0);go_wp2_with (go_at_call 41;refine HCW.out.mono ?_;clear HCW;rintro e W1 ⟨rfl,hw1⟩;have kR:=(hw1.block _ b3).trans kR0;have a2:=cell_box1 kR;have f2:=free_box1 kR);have hc3:=res_store kR (.slice none 0 0);refine bodyPost_ret (v:=.tuple #[.agg #[.slice none 0 0],.int .i64 2]) (by simp[results,Tryz.results87,go_sem,hc3]) rfl ⟨rfl,?_⟩;exact(hWb0.trans (hw1.mono hWb0.size)).setCell (p:=⟨w.heap.size+1+1,0,none⟩) (by show _≤w.heap.size+1+1;omega) _
theorem digs_mono{n m:Nat}(h:m≤n):(digs B32 m).length≤(digs B32 n).length:=
  Nat.le_of_not_lt fun hlt=>absurd (digs_len_mono b32_2 hlt) (by omega)
theorem sub_any(v u:Value)(n m:Nat)(w:World)(hv:NatV w v n)(hu:NatV w u m)(h1:(digs B32 n).length<1000000)(h2:(digs B32 m).length<1000000):
    Calls Tryz.prog 87 #[v,u] w fun e w'=> ∃x,e=.returned (.tuple #[x,.int .i64 (if n<m then 2 else 0)])∧NatV w' x (n-m)∧Below w.heap.size w w':=by
  by_cases hlt:n<m
  · rw[if_pos hlt]
    refine(sub_err v u n m w hv hu h1 h2 hlt).mono fun e w' ⟨h1,h2⟩=>⟨_,h1,?_,h2⟩
    rw[Nat.sub_eq_zero_of_le (by omega)];exact NatV.zero _
  · rw[if_neg hlt]
    have hc:∀w1,Below w.heap.size w w1→Calls Tryz.prog 41 #[v,u] w1 fun e w'=> ∃j:Int,0≤j∧e=.returned (.int .i64 j)∧Below w1.heap.size w1 w':=fun w1 hb=>
      (cmp_any v u n m w1 (hv.below hb) (hu.below hb) (by omega) (by omega)).mono fun e w' ⟨h1,h2⟩=>⟨cmpN n m,by unfold cmpN;rw[if_neg hlt];split<;>omega,h1,h2⟩
    obtain⟨P,c,rfl,hp⟩:=hv.digp;obtain⟨Q,c',rfl,hq⟩:=hu.digp;have:=sub_core P Q c c' _ _ w hp hq (digs_lt b32_2 n) (digs_lt b32_2 m) h1 (digs_mono (by omega)) hc (by rw[val_digs b32_2,val_digs b32_2];omega)
    rwa [val_digs b32_2,val_digs b32_2]at this
end Go.Proofs.YtlhbcopaakejgaaGreatDoor
namespace Go.Proofs.YtlhbcopaakejgaaGreatDoor
open Go.RowKit
structure MulAt(W0:World)(D:Nat)(ds es:List Nat)(i:Nat)(wr:World):Prop where
  arr:∃xs:List Nat,Arr wr D xs∧xs.length=ds.length+es.length∧(∀x∈xs,x<B32)∧val B32 (xs.take (i+es.length))=val B32 (ds.take i)*val B32 es
  old:Below D W0 wr
structure MulIn(W0:World)(D:Nat)(ds es:List Nat)(i x k cy:Nat)(wr:World):Prop where
  arr:∃xs xs0:List Nat,Arr wr D xs∧xs.length=ds.length+es.length∧(∀x∈xs,x<B32)∧xs0.length=xs.length∧val B32 (xs0.take (i+es.length))=val B32 (ds.take i)*val B32 es∧
    xs.drop (i+k)=xs0.drop (i+k)∧val B32 (xs.take (i+k))+B32^(i+k)*cy=val B32 (xs0.take (i+k))+B32^i*(x*val B32 (es.take k))
  old:Below D W0 wr
  cy1:cy≤4294967295
theorem arr_inj{W:World}{D:Nat}{xs ys:List Nat}(h:Arr W D xs)(h':Arr W D ys):xs=ys:=by
  unfold Arr at h h';rw[h]at h';have e:=congrArg (fun o=>match o with|some (Obj.cells c _ _)=>c.toList|_=>[]) h';simp only at e;refine List.map_inj_right (f:=uCell) (fun a b hab=>?_)|>.1 e
  unfold uCell at hab
  injection hab with _ hab
  exact_mod_cast hab
theorem MulAt.start{W0 wr:World}{D:Nat}{ds es:List Nat}{i:Nat}(h:MulAt W0 D ds es i wr)(x:Nat):MulIn W0 D ds es i x 0 0 wr:=by
  obtain⟨⟨xs,h1,h2,h3,h4⟩,h5⟩:=h;exact⟨⟨xs,xs,h1,h2,h3,rfl,h4,rfl,by simp[val]⟩,h5,by omega⟩
theorem mul_bound{cn x y d:Nat}(hc:cn≤4294967295)(hx:x≤4294967295)(hy:y≤4294967295)(hd:d≤4294967295):cn+(x*y+d)≤18446744073709551615:=by
  have:x*y≤4294967295*4294967295:=Nat.mul_le_mul hx hy;omega
theorem MulIn.step{W0 wr:World}{D:Nat}{ds es:List Nat}{i x k cn y d:Nat}(h:MulIn W0 D ds es i x k cn wr)(hk:k<es.length)(hi:i<ds.length)(hy:es[k]=y)(hx1:x≤4294967295)(hy1:y≤4294967295)(hd:∀xs,Arr wr D xs→ ∀h:i+k<xs.length,xs[i+k]=d)(hd1:d≤4294967295):
    MulIn W0 D ds es i x (k+1) ((cn+(x*y+d))/4294967296) (wr.setCell ⟨D,i+k,none⟩ (.int .u32 (((cn+(x*y+d))%4294967296:Nat):Int))):=by
  have hcy:=h.cy1;obtain⟨⟨xs,xs0,h1,h2,h3,h4,h5,h6,h7⟩,h8,h9⟩:=h;have hlt:i+k<xs.length:=by omega
  have hlt0:i+k<xs0.length:=by omega
  have hdd:=hd xs h1 hlt
  have hd0:xs0[i+k]=d:=by
    rw[List.drop_eq_getElem_cons hlt,List.drop_eq_getElem_cons hlt0]at h6;rw[←hdd];exact(List.cons.inj h6).1.symm
  have hb:=mul_bound hcy hx1 hy1 hd1;refine⟨⟨xs.set (i+k) ((cn+(x*y+d))%4294967296),xs0,h1.store _ _,by simpa using h2,all_set h3 (by rw[b32];omega),by simpa using h4,h5,?_,?_⟩,h8.setCell (p:=⟨D,i+k,none⟩) (Nat.le_refl _) _,by omega⟩
  · rw[←Nat.add_assoc,List.drop_set_of_lt (by omega)]
    rw[List.drop_eq_getElem_cons hlt,List.drop_eq_getElem_cons hlt0]at h6;exact(List.cons.inj h6).2
  · rw[←Nat.add_assoc,val_take_set hlt,val_take_succ hlt0,val_take_succ hk,hd0,hy,Nat.pow_succ,Nat.mul_add x,Nat.mul_add (B32^i)]
    have e1:B32^i*(x*(B32^k*y))=B32^(i+k)*(x*y):=by rw[Nat.pow_add];ac_rfl
    rw[e1];generalize B32^(i+k)=p at*;rw[Nat.mul_assoc p B32]
    have e2:p*((cn+(x*y+d))%4294967296)+p*(B32*((cn+(x*y+d))/4294967296))=p*cn+(p*(x*y)+p*d):=by
      rw[←Nat.mul_add,b32,Nat.mod_add_div,Nat.mul_add,Nat.mul_add]
    omega
theorem MulIn.done{W0 wr:World}{D:Nat}{ds es:List Nat}{i x cn:Nat}(h:MulIn W0 D ds es i x es.length cn wr)(hi:i<ds.length)(hx:ds[i]=x):
    MulAt W0 D ds es (i+1) (wr.setCell ⟨D,i+es.length,none⟩ (.int .u32 (cn:Int))):=by
  have hcy:=h.cy1;obtain⟨⟨xs,xs0,h1,h2,h3,h4,h5,h6,h7⟩,h8,h9⟩:=h;refine⟨⟨xs.set (i+es.length) cn,h1.store _ _,by simpa using h2,all_set h3 (by rw[b32];omega),?_⟩,h8.setCell (p:=⟨D,i+es.length,none⟩) (Nat.le_refl _) _⟩;rw[show i+1+es.length=i+es.length+1 by omega,val_take_set (by omega),h7,h5,val_take_succ hi,hx,List.take_length,Nat.add_mul,Nat.mul_assoc]
set_option maxRecDepth 100000 in
set_option maxHeartbeats 2000000 in
theorem mul_core(P Q:Option Addr)(c c':Nat)(ds es:List Nat)(w:World)(hd:DigP w P ds)(he:DigP w Q es)(h1:∀d∈ds,d<B32)(h2:∀d∈es,d<B32)(hl:ds.length+es.length≤1000000)(hz:∀w1,Below w.heap.size w w1→Calls Tryz.prog 34 #[.agg #[.slice P ds.length c]] w1 fun e w'=>e=.returned (.bool false)∧Below w1.heap.size w1 w')(hz':∀w1,Below w.heap.size w w1→Calls Tryz.prog 34 #[.agg #[.slice Q es.length c']] w1 fun e w'=>e=.returned (.bool false)∧Below w1.heap.size w1 w'):
    Calls Tryz.prog 82 #[.agg #[.slice P ds.length c],.agg #[.slice Q es.length c']] w fun e w'=> ∃v,e=.returned v∧NatV w' v (val B32 ds*val B32 es)∧Below w.heap.size w w':=by
  obtain⟨i0,hi,hz0,hz1,hz2⟩:=info_parts infoU;have H1:=hid h1;have H2:=hid h2;have HZ:=hid hz;have HZ':=hid hz';clear h1 h2 hz hz';go_enter Tryz.func82,Tryz.ntmps82;go_upto_region 1 with(fail);obtain⟨W0,hW0,hsz,kA0,kB0,kR0,hWb0⟩:=box3_head (.slice P ds.length c) (.slice Q es.length c') w;rw[←hW0];have b1:w.heap.size<W0.heap.size:=by omega
  have b2:w.heap.size+1<W0.heap.size:=by omega
  have b3:w.heap.size+1+1<W0.heap.size:=by omega
  clear hW0 hsz;have a00:=cell_box1 kA0;have a10:=cell_box1 kB0;refine wp_region_text (fun w'=>Below W0.heap.size W0 w') [1,1,0,1,1,0] (by exact Below.refl _ _) ?_;have hsub:∀w',Below W0.heap.size W0 w'→Below w.heap.size w w':=fun w' h=>hWb0.trans (h.mono hWb0.size)
  apply lexH rfl;(· intro w' hw';have hcc:=cellsBelow hw';go_simp;(try go_bits);exact⟨rfl,hw'⟩);simp only[Act.put,List.setIfInBounds_toArray,List.set_cons_zero,List.set_cons_succ];apply lexH rfl
  · intro w' hw';go_simp;(try go_bits);refine(HZ.out _ (hsub _ hw')).mono ?_;rintro e w1 ⟨rfl,hw1⟩;exact⟨_,rfl,rfl,hw'.trans (hw1.mono hw'.size)⟩
  simp only[Act.put,List.setIfInBounds_toArray,List.set_cons_zero,List.set_cons_succ];apply lexF rfl;(· intro _;go_simp;(try go_bits);exact⟨rfl,rfl⟩);simp only[Act.put,List.setIfInBounds_toArray,List.set_cons_zero,List.set_cons_succ]
  first|(apply lexN (j:=2) (d:=13) (b:=false) rfl rfl rfl rfl;simp only[Act.put,List.setIfInBounds_toArray,List.set_cons_zero,List.set_cons_succ])|(apply lexN' (j:=2) (d:=13) (b:=false) rfl rfl rfl;simp only[Act.put,List.setIfInBounds_toArray,List.set_cons_zero,List.set_cons_succ])|(apply lexHg (j:=2) (d:=13) (b:=false) rfl rfl rfl rfl;(· intro w' hw';have hcc:=cellsBelow hw';go_simp;(try go_bits);exact⟨rfl,hw'⟩);simp only[Act.put,List.setIfInBounds_toArray,List.set_cons_zero,List.set_cons_succ])
  apply lexHg (j:=2) (d:=13) (b:=false) rfl rfl rfl rfl
  · intro w' hw';go_simp;(try go_bits);refine(HZ'.out _ (hsub _ hw')).mono ?_;rintro e w1 ⟨rfl,hw1⟩;exact⟨_,rfl,rfl,hw'.trans (hw1.mono hw'.size)⟩
  simp only[Act.put,List.setIfInBounds_toArray,List.set_cons_zero,List.set_cons_succ];apply lexF rfl;(· intro _;go_simp;(try go_bits);exact⟨rfl,rfl⟩);simp only[Act.put,List.setIfInBounds_toArray,List.set_cons_zero,List.set_cons_succ];refine lexEnd (fun W1 hw1=>?_);have kA:=(hw1.block _ b1).trans kA0;have kB:=(hw1.block _ b2).trans kB0;have kR:=(hw1.block _ b3).trans kR0;have hWb:=hWb0.trans (hw1.mono hWb0.size);have hd1:=hd.below hWb;have he1:=he.below hWb;have hs1:=hw1.size;replace b1:=Nat.lt_of_lt_of_le b1 hs1;replace b2:=Nat.lt_of_lt_of_le b2 hs1;replace b3:=Nat.lt_of_lt_of_le b3 hs1;clear hd he a00 a10 kA0 kB0 kR0 hWb0 HZ HZ' hw1 hs1 hsub;have a0:=cell_box1 kA;have a1:=cell_box1 kB;go_wp2_with (at_make;refine wpList_make_full _ rfl _ _ _ rfl W1.heap.size 106 i0 _ 1 Tryz.underlying37 hi hz0 hz1 _ _ _ _ (ds.length+es.length) rfl rfl (by simp) (by simp) (by rw[hz2];omega) (by unfold maxLen;omega) (Nat.le_refl _) ?_;intro w2 hown hgr;have hb2:Below W1.heap.size W1 w2:=(Below.refl _ W1).grown hgr (Nat.le_refl _) (by simp);have hA:=arr_made hown;clear hown hgr;have hcc:=cellsBelow hb2);clear hcc;have hA0:MulAt W1 W1.heap.size ds es 0 w2:=⟨⟨_,hA,by simp,fun x hx=>by rw[List.eq_of_mem_replicate hx,b32];omega,by simp[val,val_replicate]⟩,hb2⟩;clear hA hb2;go_loopw [29] (fun i wr=> ∃k:Nat,k≤ds.length∧i=.int .i64 k∧MulAt W1 W1.heap.size ds es k wr) (fun i _=>ds.length-(intOf i).toNat)
  case atStart=>exact⟨0,Nat.zero_le _,rfl,hA0⟩
  case round=>
    clear hA0;obtain⟨i,hk,rfl,hat⟩:=hrel;have hold:=hat.old;have hcc:=cellsBelow hold
    by_cases hlt:i<ds.length
    · obtain⟨g,rfl,hdg⟩:=hd1.at hlt
      have hgl:=hdg.lt;have g0:=hdg.at0 i hlt;have hx1:ds[i]≤4294967295:=by have:=H1.out _ (List.getElem_mem hlt);rw[b32]at this;omega
      obtain⟨x,hx⟩:∃x,ds[i]=x:=⟨_,rfl⟩;rw[hx]at g0 hx1;have HX:=hid hx;have HIN:=hid (hat.start x);clear hx hat;go_upto_region 9 with(fail);clear hcc hold;go_loopw [8,37] (fun cy i' wr=> ∃k cn:Nat,k≤es.length∧i'=.int .i64 k∧cy=.int .u64 (cn:Int)∧MulIn W1 W1.heap.size ds es i x k cn wr) (fun _ i' _=>es.length-(intOf i').toNat)
      case atStart=>exact⟨0,0,Nat.zero_le _,rfl,rfl,HIN.out⟩
      case round=>
        clear HIN;obtain⟨k,cn,hk2,rfl,rfl,hat⟩:=hrel;have hold:=hat.old;have hcc:=cellsBelow hold;have hcy:=hat.cy1
        by_cases hlt2:k<es.length
        · obtain⟨g',rfl,heg⟩:=he1.at hlt2
          have hgl':=heg.lt;have g1:=heg.at0 k hlt2;have hy1:es[k]≤4294967295:=by have:=H2.out _ (List.getElem_mem hlt2);rw[b32]at this;omega
          obtain⟨y,hy⟩:∃y,es[k]=y:=⟨_,rfl⟩;obtain⟨xs,_,hxs,hxl,hxb,_⟩:=hat.arr;have hfr:=hxs.free;have hik:i+k<xs.length:=by omega
          have c0:=hxs.cell (i+k) hik;have hd1':xs[i+k]≤4294967295:=by have:=hxb _ (List.getElem_mem hik);rw[b32]at this;omega
          obtain⟨d,hdd⟩:∃d,xs[i+k]=d:=⟨_,rfl⟩;rw[hy]at g1 hy1;rw[hdd]at c0 hd1'
          have HS:=hid (hat.step hlt2 hlt hy hx1 hy1 (fun xs' h' hl'=>by
            have e:xs'=xs:=arr_inj h' hxs;subst e;exact hdd) hd1')
          have hmb:=mul_bound hcy hx1 hy1 hd1';have hmb0:0≤(x:Int)*(y:Int):=Int.mul_nonneg (by omega) (by omega)
          have hmb1:(cn:Int)+((x:Int)*(y:Int)+(d:Int))≤18446744073709551615:=by
            have e1:((x*y:Nat):Int)=(x:Int)*(y:Int):=Int.natCast_mul x y;omega
          clear hy hdd hat hmb;go_upto_region 12 with(fail);go_upto_region 13 with(fail);obtain⟨t,ht,ht2⟩:∃t:Nat,cn+(x*y+d)=t∧(cn:Int)+((x:Int)*(y:Int)+(d:Int))=(t:Int):=⟨_,rfl,by simp only[Int.natCast_add,Int.natCast_mul]⟩;rw[ht]at HS;rw[ht2];rw[ht2]at hmb1;clear ht ht2 hmb0;go_wp2;go_roundw
          case rel=>exact⟨k+1,t/4294967296,by omega,by go_num,rfl,HS.out⟩
          case measure=>simp[intOf];omega
        · obtain rfl:k=es.length:=by omega
          obtain⟨xs,_,hxs,hxl,hxb,_⟩:=hat.arr;have hfr:=hxs.free;have hik:i+es.length<xs.length:=by omega
          have c0:=hxs.cell (i+es.length) hik;have HS:=hid (hat.done hlt HX.out);clear hat;go_wp2;go_roundw
          case rel=>exact⟨i+1,by omega,by go_num,HS.out⟩
          case measure=>simp[intOf];omega
    · obtain rfl:i=ds.length:=by omega
      obtain⟨xs,hxs,hxl,hxb,hxv⟩:=hat.arr;have HT:=hid (trim_arr hxs hxb (by omega));rw[←hxl,List.take_length,List.take_length]at hxv;rw[hxv,hxl]at HT;clear hxv hat;go_wp2_with (go_at_call 100;refine HT.out.mono ?_;clear HT;rintro e w3 ⟨p,c3,rfl,hv,hw3⟩;have hb3:=hold.trans (hw3.mono hold.size);have hR2:=(hb3.block _ b3).trans kR;have hc2:=cell_box1 hR2;have hf2:=free_box1 hR2);have hc3:=res_store hR2 (.slice p (digs B32 (val B32 ds*val B32 es)).length c3);refine bodyPost_ret (v:=.agg #[.slice p (digs B32 (val B32 ds*val B32 es)).length c3]) (by simp[results,Tryz.results82,go_sem,hc3]) rfl ⟨_,rfl,hv.store hc2 _,?_⟩;exact(hWb.trans (hb3.mono (by omega))).setCell (p:=⟨w.heap.size+1+1,0,none⟩) (by show _≤w.heap.size+1+1;omega) _
set_option maxHeartbeats 1000000 in
theorem mul_zero1(P Q:Option Addr)(c c' l m:Nat)(w:World)(hz:∀w1,Below w.heap.size w w1→Calls Tryz.prog 34 #[.agg #[.slice P l c]] w1 fun e w'=>e=.returned (.bool true)∧Below w1.heap.size w1 w'):
    Calls Tryz.prog 82 #[.agg #[.slice P l c],.agg #[.slice Q m c']] w fun e w'=>e=.returned (.agg #[.slice none 0 0])∧Below w.heap.size w w':=by
  have HZ:=hid hz;clear hz;go_enter Tryz.func82,Tryz.ntmps82;go_upto_region 1 with(fail);obtain⟨W0,hW0,hsz,kA0,kB0,kR0,hWb0⟩:=box3_head (.slice P l c) (.slice Q m c') w;rw[←hW0];have b1:w.heap.size<W0.heap.size:=by omega
  have b2:w.heap.size+1<W0.heap.size:=by omega
  have b3:w.heap.size+1+1<W0.heap.size:=by omega
  clear hW0 hsz;have a00:=cell_box1 kA0;have a10:=cell_box1 kB0;refine wp_region_text (fun w'=>Below W0.heap.size W0 w') [1,1,0,1,1,0] (by exact Below.refl _ _) ?_;have hsub:∀w',Below W0.heap.size W0 w'→Below w.heap.size w w':=fun w' h=>hWb0.trans (h.mono hWb0.size)
  apply lexH rfl;(· intro w' hw';have hcc:=cellsBelow hw';go_simp;(try go_bits);exact⟨rfl,hw'⟩);simp only[Act.put,List.setIfInBounds_toArray,List.set_cons_zero,List.set_cons_succ];apply lexH rfl
  · intro w' hw';go_simp;(try go_bits);refine(HZ.out _ (hsub _ hw')).mono ?_;rintro e w1 ⟨rfl,hw1⟩;exact⟨_,rfl,rfl,hw'.trans (hw1.mono hw'.size)⟩
  simp only[Act.put,List.setIfInBounds_toArray,List.set_cons_zero,List.set_cons_succ];apply lexF rfl;(· intro _;go_simp;(try go_bits);exact⟨rfl,rfl⟩);simp only[Act.put,List.setIfInBounds_toArray,List.set_cons_zero,List.set_cons_succ]
  first|(apply lexN (j:=2) (d:=13) (b:=false) rfl rfl rfl rfl;simp only[Act.put,List.setIfInBounds_toArray,List.set_cons_zero,List.set_cons_succ])|(apply lexN' (j:=2) (d:=13) (b:=false) rfl rfl rfl;simp only[Act.put,List.setIfInBounds_toArray,List.set_cons_zero,List.set_cons_succ])|(apply lexHg (j:=2) (d:=13) (b:=false) rfl rfl rfl rfl;(· intro w' hw';have hcc:=cellsBelow hw';go_simp;(try go_bits);exact⟨rfl,hw'⟩);simp only[Act.put,List.setIfInBounds_toArray,List.set_cons_zero,List.set_cons_succ])
  first|(apply lexN (j:=2) (d:=13) (b:=false) rfl rfl rfl rfl;simp only[Act.put,List.setIfInBounds_toArray,List.set_cons_zero,List.set_cons_succ])|(apply lexN' (j:=2) (d:=13) (b:=false) rfl rfl rfl;simp only[Act.put,List.setIfInBounds_toArray,List.set_cons_zero,List.set_cons_succ])|(apply lexHg (j:=2) (d:=13) (b:=false) rfl rfl rfl rfl;(· intro w' hw';have hcc:=cellsBelow hw';go_simp;(try go_bits);exact⟨rfl,hw'⟩);simp only[Act.put,List.setIfInBounds_toArray,List.set_cons_zero,List.set_cons_succ])
  apply lexF rfl;(· intro _;go_simp;(try go_bits);exact⟨rfl,rfl⟩);simp only[Act.put,List.setIfInBounds_toArray,List.set_cons_zero,List.set_cons_succ];refine lexEnd (fun W1 hw1=>?_);have kR:=(hw1.block _ b3).trans kR0;have a2:=cell_box1 kR;have f2:=free_box1 kR;have hWb:=hWb0.trans (hw1.mono hWb0.size);have hs1:=hw1.size;replace b3:=Nat.lt_of_lt_of_le b3 hs1;clear a00 a10 kA0 kB0 kR0 hWb0 hw1 hs1 hsub;go_wp2;have hc3:=res_store kR (.slice none 0 0);refine bodyPost_ret (v:=.agg #[.slice none 0 0]) (by simp[results,Tryz.results82,go_sem,hc3]) rfl ⟨rfl,?_⟩;exact hWb.setCell (p:=⟨w.heap.size+1+1,0,none⟩) (by show _≤w.heap.size+1+1;omega) _
set_option maxHeartbeats 1000000 in
theorem mul_zero2(P Q:Option Addr)(c c' l m:Nat)(w:World)(hz:∀w1,Below w.heap.size w w1→Calls Tryz.prog 34 #[.agg #[.slice P l c]] w1 fun e w'=>e=.returned (.bool false)∧Below w1.heap.size w1 w')(hz':∀w1,Below w.heap.size w w1→Calls Tryz.prog 34 #[.agg #[.slice Q m c']] w1 fun e w'=>e=.returned (.bool true)∧Below w1.heap.size w1 w'):
    Calls Tryz.prog 82 #[.agg #[.slice P l c],.agg #[.slice Q m c']] w fun e w'=>e=.returned (.agg #[.slice none 0 0])∧Below w.heap.size w w':=by
  have HZ:=hid hz;have HZ':=hid hz';clear hz hz';go_enter Tryz.func82,Tryz.ntmps82;go_upto_region 1 with(fail);obtain⟨W0,hW0,hsz,kA0,kB0,kR0,hWb0⟩:=box3_head (.slice P l c) (.slice Q m c') w;rw[←hW0];have b1:w.heap.size<W0.heap.size:=by omega
  have b2:w.heap.size+1<W0.heap.size:=by omega
  have b3:w.heap.size+1+1<W0.heap.size:=by omega
  clear hW0 hsz;have a00:=cell_box1 kA0;have a10:=cell_box1 kB0;refine wp_region_text (fun w'=>Below W0.heap.size W0 w') [1,1,0,1,1,0] (by exact Below.refl _ _) ?_;have hsub:∀w',Below W0.heap.size W0 w'→Below w.heap.size w w':=fun w' h=>hWb0.trans (h.mono hWb0.size)
  apply lexH rfl;(· intro w' hw';have hcc:=cellsBelow hw';go_simp;(try go_bits);exact⟨rfl,hw'⟩);simp only[Act.put,List.setIfInBounds_toArray,List.set_cons_zero,List.set_cons_succ];apply lexH rfl
  · intro w' hw';go_simp;(try go_bits);refine(HZ.out _ (hsub _ hw')).mono ?_;rintro e w1 ⟨rfl,hw1⟩;exact⟨_,rfl,rfl,hw'.trans (hw1.mono hw'.size)⟩
  simp only[Act.put,List.setIfInBounds_toArray,List.set_cons_zero,List.set_cons_succ];apply lexF rfl;(· intro _;go_simp;(try go_bits);exact⟨rfl,rfl⟩);simp only[Act.put,List.setIfInBounds_toArray,List.set_cons_zero,List.set_cons_succ]
  first|(apply lexN (j:=2) (d:=13) (b:=false) rfl rfl rfl rfl;simp only[Act.put,List.setIfInBounds_toArray,List.set_cons_zero,List.set_cons_succ])|(apply lexN' (j:=2) (d:=13) (b:=false) rfl rfl rfl;simp only[Act.put,List.setIfInBounds_toArray,List.set_cons_zero,List.set_cons_succ])|(apply lexHg (j:=2) (d:=13) (b:=false) rfl rfl rfl rfl;(· intro w' hw';have hcc:=cellsBelow hw';go_simp;(try go_bits);exact⟨rfl,hw'⟩);simp only[Act.put,List.setIfInBounds_toArray,List.set_cons_zero,List.set_cons_succ])
  apply lexHg (j:=2) (d:=13) (b:=false) rfl rfl rfl rfl
  · intro w' hw';go_simp;(try go_bits);refine(HZ'.out _ (hsub _ hw')).mono ?_;rintro e w1 ⟨rfl,hw1⟩;exact⟨_,rfl,rfl,hw'.trans (hw1.mono hw'.size)⟩
  simp only[Act.put,List.setIfInBounds_toArray,List.set_cons_zero,List.set_cons_succ];apply lexF rfl;(· intro _;go_simp;(try go_bits);exact⟨rfl,rfl⟩);simp only[Act.put,List.setIfInBounds_toArray,List.set_cons_zero,List.set_cons_succ];refine lexEnd (fun W1 hw1=>?_);have kR:=(hw1.block _ b3).trans kR0;have a2:=cell_box1 kR;have f2:=free_box1 kR;have hWb:=hWb0.trans (hw1.mono hWb0.size);have hs1:=hw1.size;replace b3:=Nat.lt_of_lt_of_le b3 hs1;clear a00 a10 kA0 kB0 kR0 hWb0 hw1 hs1 hsub;go_wp2;have hc3:=res_store kR (.slice none 0 0);refine bodyPost_ret (v:=.agg #[.slice none 0 0]) (by simp[results,Tryz.results82,go_sem,hc3]) rfl ⟨rfl,?_⟩;exact hWb.setCell (p:=⟨w.heap.size+1+1,0,none⟩) (by show _≤w.heap.size+1+1;omega) _
theorem mul_any(v u:Value)(n m:Nat)(w:World)(hv:NatV w v n)(hu:NatV w u m)(hl:(digs B32 n).length+(digs B32 m).length≤1000000):
    Calls Tryz.prog 82 #[v,u] w fun e w'=> ∃x,e=.returned x∧NatV w' x (n*m)∧Below w.heap.size w w':=by
  have hz:=fun w1 (hb:Below w.heap.size w w1)=>isZero_any v n w1 (hv.below hb)
  have hz':=fun w1 (hb:Below w.heap.size w w1)=>isZero_any u m w1 (hu.below hb)
  obtain⟨P,c,rfl,hp⟩:=hv.digp;obtain⟨Q,c',rfl,hq⟩:=hu.digp
  by_cases h0:n=0
  · subst h0
    refine(mul_zero1 P Q c c' _ _ w hz).mono fun e w' ⟨h1,h2⟩=>⟨_,h1,?_,h2⟩
    rw[Nat.zero_mul];exact NatV.zero _
  · rw[show(n==0)=false by simpa using h0]at hz
    by_cases h1:m=0
    · subst h1
      refine(mul_zero2 P Q c c' _ _ w hz hz').mono fun e w' ⟨h1,h2⟩=>⟨_,h1,?_,h2⟩
      rw[Nat.mul_zero];exact NatV.zero _
    · rw[show(m==0)=false by simpa using h1]at hz'
      have:=mul_core P Q c c' _ _ w hp hq (digs_lt b32_2 n) (digs_lt b32_2 m) hl hz hz'
      rwa [val_digs b32_2,val_digs b32_2]at this
end Go.Proofs.YtlhbcopaakejgaaGreatDoor
namespace Go.Proofs.YtlhbcopaakejgaaGreatDoor
open Go.RowKit
theorem div_or(h l:Nat)(hh:h≤4294967295)(hl:l≤4294967295):bits BinOp.or IntKind.u64 ((h:Int)*4294967296) (l:Int)=((h*4294967296+l:Nat):Int):=by
  have e1:(h:Int)*4294967296=((h*4294967296:Nat):Int):=by omega
  rw[e1,u64_or_nat _ _ (by omega) (by omega)];have e2:h*4294967296=2^32*h:=by omega
  rw[e2, ←Nat.two_pow_add_eq_or_of_lt (show l<2^32 by omega)]
set_option maxHeartbeats 1000000 in
theorem div32_any(h l y:Nat)(w:World)(hh:h<y)(hl:l≤4294967295)(hy:y≤4294967295):
    Calls Tryz.prog 99 #[.int .u32 (h:Int),.int .u32 (l:Int),.int .u32 (y:Int)] w fun e w'=>e=.returned (.tuple #[.int .u32 (((h*4294967296+l)/y:Nat):Int),.int .u32 (((h*4294967296+l)%y:Nat):Int)])∧Below w.heap.size w w':=by
  have q0:((y:Int)==0)=false:=by rw[beq_eq_false_iff_ne];omega
  have q1:((y:Int) !=0)=true:=by rw[bne_iff_ne];omega
  have q2:¬((y:Int)≤(h:Int)):=by omega
  have hq:(h*4294967296+l)/y<4294967296:=Nat.div_lt_of_lt_mul (by
    have:=Nat.mul_le_mul_right 4294967296 (show h+1≤y from hh);omega)
  have hr:(h*4294967296+l)%y<y:=Nat.mod_lt _ (by omega);obtain⟨t,ht,ht2⟩:∃t:Nat,h*4294967296+l=t∧(h:Int)*4294967296+(l:Int)=(t:Int):=⟨_,rfl,by omega⟩;have hor:=div_or h l (by omega) hl;rw[ht]at hor;rw[ht]at hq hr;rw[ht];have hq1:(t:Int)/(y:Int)<4294967296:=by have e:(t:Int)/(y:Int)=((t/y:Nat):Int):=rfl;omega
  have hr1:(t:Int)%(y:Int)<4294967296:=by have e:(t:Int)%(y:Int)=((t%y:Nat):Int):=rfl;omega
  have hq2:0≤(t:Int)/(y:Int):=Int.natCast_nonneg (t/y);have hr2:0≤(t:Int)%(y:Int):=Int.natCast_nonneg (t%y);have hy0:¬y=0:=by omega
  clear ht ht2 hq hr;go_enter Tryz.func99,Tryz.ntmps99;go_upto_region 4 with(fail);refine wp_region_staged (fun w'=>Below w.heap.size w w') [0,0,0,0,0,0,0,0,0,0,0,0] (by kernel_rfl) (by kernel_rfl) (by kernel_rfl) (by exact(Below.refl _ _).drew) ?_;apply lexF rfl;(· intro _;go_simp;(try go_bits);exact⟨rfl,rfl⟩);simp only[Act.put,List.setIfInBounds_toArray,List.set_cons_zero,List.set_cons_succ];apply lexF rfl;(· intro _;go_simp;(try go_bits);exact⟨rfl,rfl⟩);simp only[Act.put,List.setIfInBounds_toArray,List.set_cons_zero,List.set_cons_succ];apply lexF rfl;(· intro _;go_simp;(try go_bits);exact⟨rfl,rfl⟩);simp only[Act.put,List.setIfInBounds_toArray,List.set_cons_zero,List.set_cons_succ];apply lexF rfl;(· intro _;go_simp;(try go_bits);exact⟨rfl,rfl⟩);simp only[Act.put,List.setIfInBounds_toArray,List.set_cons_zero,List.set_cons_succ];apply lexF rfl;(· intro _;go_simp;(try go_bits);exact⟨rfl,rfl⟩);simp only[Act.put,List.setIfInBounds_toArray,List.set_cons_zero,List.set_cons_succ];apply lexF rfl;(· intro _;go_simp;(try go_bits);exact⟨rfl,rfl⟩);simp only[Act.put,List.setIfInBounds_toArray,List.set_cons_zero,List.set_cons_succ];apply lexF rfl;(· intro _;go_simp;(try go_bits);exact⟨rfl,rfl⟩);simp only[Act.put,List.setIfInBounds_toArray,List.set_cons_zero,List.set_cons_succ];apply lexF rfl;(· intro _;go_simp;(try go_bits);exact⟨rfl,rfl⟩);simp only[Act.put,List.setIfInBounds_toArray,List.set_cons_zero,List.set_cons_succ];apply lexF rfl;(· intro _;go_simp;(try go_bits);exact⟨rfl,rfl⟩);simp only[Act.put,List.setIfInBounds_toArray,List.set_cons_zero,List.set_cons_succ];apply lexF rfl;(· intro _;go_simp;(try go_bits);exact⟨rfl,rfl⟩);simp only[Act.put,List.setIfInBounds_toArray,List.set_cons_zero,List.set_cons_succ];apply lexF rfl;(· intro _;go_simp;(try go_bits);exact⟨rfl,rfl⟩);simp only[Act.put,List.setIfInBounds_toArray,List.set_cons_zero,List.set_cons_succ];apply lexF rfl;(· intro _;go_simp;(try go_bits);exact⟨rfl,rfl⟩);simp only[Act.put,List.setIfInBounds_toArray,List.set_cons_zero,List.set_cons_succ]
  refine lexEnd (fun w2 hw2=>?_);go_wp2;go_ret2;exact⟨rfl,hw2⟩
theorem val_drop{B:Nat}{ds:List Nat}{j:Nat}(hj:j<ds.length):val B (ds.drop j)=ds[j]+B*val B (ds.drop (j+1)):=by
  rw[List.drop_eq_getElem_cons hj];rfl
theorem val_drop_set{B:Nat}{xs:List Nat}{j v:Nat}(hj:j<xs.length):val B ((xs.set j v).drop j)=v+B*val B (xs.drop (j+1)):=by
  rw[val_drop (by simpa using hj),List.getElem_set_self,List.drop_set_of_lt (by omega)]
structure DivAt(W0:World)(D:Nat)(ds:List Nat)(b k r:Nat)(wr:World):Prop where
  arr:∃xs:List Nat,Arr wr D xs∧xs.length=ds.length∧(∀x∈xs,x<B32)∧val B32 (ds.drop k)=b*val B32 (xs.drop k)+r
  old:Below D W0 wr
  rb:r<b
theorem DivAt.step{W0 wr wr':World}{D:Nat}{ds:List Nat}{b j r x:Nat}(h:DivAt W0 D ds b (j+1) r wr)(hw:Below wr.heap.size wr wr')(hj:j<ds.length)(hx:ds[j]=x)(hx1:x≤4294967295)(hb:b≤4294967295):
    DivAt W0 D ds b j ((r*4294967296+x)%b) (wr'.setCell ⟨D,j,none⟩ (.int .u32 (((r*4294967296+x)/b:Nat):Int))):=by
  have hrb:=h.rb;obtain⟨⟨xs,h1,h2,h3,h4⟩,h5,h6⟩:=h
  have hq:(r*4294967296+x)/b<4294967296:=Nat.div_lt_of_lt_mul (by
    have:=Nat.mul_le_mul_right 4294967296 (show r+1≤b from hrb);omega)
  refine⟨⟨xs.set j ((r*4294967296+x)/b),(h1.below hw).store _ _,by simpa using h2,all_set h3 (by rw[b32];exact hq),?_⟩,(h5.trans (hw.mono (Nat.le_of_lt h1.lt))).setCell (p:=⟨D,j,none⟩) (Nat.le_refl _) _,Nat.mod_lt _ (by omega)⟩;rw[val_drop hj,val_drop_set (by omega),h4,hx];have e:=Nat.div_add_mod (r*4294967296+x) b;rw[b32,Nat.mul_add 4294967296,Nat.mul_add b,Nat.mul_left_comm];omega
set_option maxRecDepth 100000 in
set_option maxHeartbeats 2000000 in
theorem divs_core(P:Option Addr)(c b:Nat)(ds:List Nat)(w:World)(hd:DigP w P ds)(h1:∀d∈ds,d<B32)(hl:ds.length≤1000000)(hb0:0<b)(hb1:b≤4294967295):
    Calls Tryz.prog 68 #[.agg #[.slice P ds.length c],.int .u32 (b:Int)] w fun e w'=> ∃v,e=.returned (.tuple #[v,.int .u32 ((val B32 ds%b:Nat):Int)])∧NatV w' v (val B32 ds/b)∧Below w.heap.size w w':=by
  obtain⟨i0,hi,hz0,hz1,hz2⟩:=info_parts infoU;have H1:=hid h1;clear h1;go_enter Tryz.func68,Tryz.ntmps68;go_upto_region 1 with(fail);obtain⟨W1,hW1,hsz,kA,kR,hWb⟩:=box2_head (.slice P ds.length c) (.slice none 0 0) 39 39 w;rw[←hW1];have b1:w.heap.size<W1.heap.size:=by omega
  have b3:w.heap.size+1<W1.heap.size:=by omega
  have hd1:=hd.below hWb;clear hW1 hsz hd;have a0:=cell_box1 kA;go_wp2_with (at_make;refine wpList_make_full _ rfl _ _ _ rfl W1.heap.size 106 i0 _ 1 Tryz.underlying37 hi hz0 hz1 _ _ _ _ ds.length rfl rfl (by simp) (by simp) (by rw[hz2];omega) (by unfold maxLen;omega) (Nat.le_refl _) ?_;intro w2 hown hgr;have hb2:Below W1.heap.size W1 w2:=(Below.refl _ W1).grown hgr (Nat.le_refl _) (by simp);have hA:=arr_made hown;clear hown hgr;have hcc:=cellsBelow hb2);clear hcc
  have hA0:DivAt W1 W1.heap.size ds b ds.length 0 w2:=⟨⟨_,hA,by simp,fun x hx=>by rw[List.eq_of_mem_replicate hx,b32];omega,by
    rw[List.drop_length,List.drop_eq_nil_of_le (by simp)];simp[val]⟩,hb2,hb0⟩
  clear hA hb2;go_loopw [7,8] (fun r i wr=> ∃k rn:Nat,k≤ds.length∧i=.int .i64 ((k:Int)-1)∧r=.int .u32 (rn:Int)∧DivAt W1 W1.heap.size ds b k rn wr) (fun _ i _=>(intOf i+1).toNat)
  case atStart=>exact⟨ds.length,0,Nat.le_refl _,rfl,rfl,hA0⟩
  case round=>
    clear hA0;obtain⟨k,rn,hk,rfl,rfl,hat⟩:=hrel;have hold:=hat.old;have hcc:=cellsBelow hold
    by_cases hk0:k=0
    · subst hk0
      obtain⟨xs,hxs,hxl,hxb,hxv⟩:=hat.arr;rw[List.drop_zero,List.drop_zero]at hxv;have hrb:=hat.rb;have e1:val B32 ds/b=val B32 xs:=by rw[hxv,Nat.mul_add_div hb0,Nat.div_eq_of_lt hrb,Nat.add_zero]
      have e2:val B32 ds%b=rn:=by rw[hxv,Nat.mul_add_mod,Nat.mod_eq_of_lt hrb]
      have HE:=hid e1;have HE2:=hid e2;have HT:=hid (trim_arr hxs hxb (by omega));rw[hxl]at HT;clear hxv hat e1 e2;go_wp2_with (go_at_call 100;refine HT.out.mono ?_;clear HT;rintro e w3 ⟨p,c3,rfl,hv,hw3⟩;have hb3:=hold.trans (hw3.mono hold.size);have hR2:=(hb3.block _ b3).trans kR;have hc2:=cell_box1 hR2;have hf2:=free_box1 hR2);have hc3:=res_store hR2 (.slice p (digs B32 (val B32 xs)).length c3);refine bodyPost_ret (v:=.tuple #[.agg #[.slice p (digs B32 (val B32 xs)).length c3],.int .u32 (rn:Int)]) (by simp[results,Tryz.results68,go_sem,hc3]) rfl ⟨_,by rw[HE2.out],by rw[HE.out];exact hv.store hc2 _,?_⟩;exact(hWb.trans (hb3.mono (by omega))).setCell (p:=⟨w.heap.size+1,0,none⟩) (by show _≤w.heap.size+1;omega) _
    · obtain⟨j,rfl⟩:∃j,k=j+1:=⟨k-1,by omega⟩
      have hj:j<ds.length:=by omega
      have ei:(((j+1:Nat):Int)-1)=(j:Int):=by omega
      rw[ei];clear ei;obtain⟨g,rfl,hdg⟩:=hd1.at hj;have hgl:=hdg.lt;have g0:=hdg.at0 j hj;have q0:0≤(j:Int):=by omega
      have hx1:ds[j]≤4294967295:=by have:=H1.out _ (List.getElem_mem hj);rw[b32]at this;omega
      obtain⟨x,hx⟩:∃x,ds[j]=x:=⟨_,rfl⟩;rw[hx]at g0 hx1;have HS:=hid (fun wr' hw=>hat.step (wr':=wr') hw hj hx hx1 hb1);have hrb:=hat.rb;obtain⟨xs,hxs,hxl,hxb,_⟩:=hat.arr;have hxl':j<xs.length:=by omega
      clear hx;go_wp2_with (go_at_call 99;refine(div32_any rn x b _ hrb hx1 hb1).mono ?_;rintro e w3 ⟨rfl,hw3⟩;have hx3:=hxs.below hw3;have hfr:=hx3.free;have c0:=hx3.cell j hxl';clear hx3);go_roundw
      case rel=>exact⟨j,_,by omega,rfl,rfl,HS.out _ hw3⟩
      case measure=>simp[intOf]
theorem divs_any(v:Value)(n b:Nat)(w:World)(hv:NatV w v n)(hl:(digs B32 n).length≤1000000)(hb0:0<b)(hb1:b≤4294967295):
    Calls Tryz.prog 68 #[v,.int .u32 (b:Int)] w fun e w'=> ∃x,e=.returned (.tuple #[x,.int .u32 ((n%b:Nat):Int)])∧NatV w' x (n/b)∧Below w.heap.size w w':=by
  obtain⟨P,c,rfl,hp⟩:=hv.digp;have:=divs_core P c b _ w hp (digs_lt b32_2 n) hl hb0 hb1
  rwa [val_digs b32_2]at this
end Go.Proofs.YtlhbcopaakejgaaGreatDoor
