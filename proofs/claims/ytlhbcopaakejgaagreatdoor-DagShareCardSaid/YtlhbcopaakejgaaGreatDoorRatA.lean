/- Rational numbers of the program and of the reference: values and limits. -/

import Derived.Test.YtlhbcopaakejgaaGreatDoorMF
namespace Go.Proofs.YtlhbcopaakejgaaGreatDoor
open Go.RowKit
open Go.Lib (decDigits)
theorem Lm.up{a b n:Nat}(h:Lm a n)(hab:a≤b):Lm b n:=Nat.lt_of_lt_of_le h (Nat.pow_le_pow_right (by decide) hab)
theorem Lm.le{a n m:Nat}(h:Lm a m)(hle:n≤m):Lm a n:=Nat.lt_of_le_of_lt hle h
structure LmQ(k:Nat)(x:Rat):Prop where
  n:Lm k x.num.natAbs
  d:Lm k x.den
theorem LmQ.up{a b:Nat}{x:Rat}(h:LmQ a x)(hab:a≤b):LmQ b x:=⟨h.n.up hab,h.d.up hab⟩
theorem LmQ.ofS{k n d:Nat}(s:Bool)(hn:Lm k n)(hd:Lm k d)(h0:d≠0):LmQ k (ofS s n d):=
  ⟨by rw[ofS_num s n h0];exact hn.le (Nat.div_le_self _ _),by rw[ofS_den s n h0];exact hd.le (Nat.div_le_self _ _)⟩
theorem LmQ.mul{a b:Nat}{x y:Rat}(hx:LmQ a x)(hy:LmQ b y):LmQ (a+b) (x*y):=by
  rw[←mul_of];exact .ofS _ (hx.n.mul hy.n) (hx.d.mul hy.d) (Nat.mul_ne_zero x.den_nz y.den_nz)
theorem LmQ.add{a b:Nat}{x y:Rat}(hx:LmQ a x)(hy:LmQ b y):LmQ (a+b+1) (x+y):=by
  rw[←add_of (sgn_of _)];refine .ofS _ (((hx.n.mul hy.d).add (hy.n.mul hx.d)).up (by omega)|>.le ?_) ((hx.d.mul hy.d).up (by omega)) (Nat.mul_ne_zero x.den_nz y.den_nz);unfold sgn
  cases isN x<;>cases isN y<;>simp<;>omega
theorem LmQ.neg{a:Nat}{x:Rat}(hx:LmQ a x):LmQ a (-x):=⟨by rw[neg_num];exact hx.n,by rw[Rat.neg_den];exact hx.d⟩
theorem LmQ.sub{a b:Nat}{x y:Rat}(hx:LmQ a x)(hy:LmQ b y):LmQ (a+b+1) (x-y):=by
  rw[Rat.sub_eq_add_neg];exact hx.add hy.neg
theorem LmQ.div{a b:Nat}{x y:Rat}(hx:LmQ a x)(hy:LmQ b y)(h0:y≠0):LmQ (a+b) (x/y):=by
  rw[←div_of x h0];exact .ofS _ (hx.n.mul hy.d) ((hy.n.mul hx.d).up (by omega)) (Nat.mul_ne_zero (fun h=>h0 ((natAbs_zero y).1 h)) x.den_nz)
def RatV(W:World)(v:Value)(x:Rat):Prop:= ∃p l c q m d,v=.agg #[.bool (isN x),.slice p l c,.slice q m d]∧NatV W (.agg #[.slice p l c]) x.num.natAbs∧NatV W (.agg #[.slice q m d]) (den0 x)
theorem RatV.below{W W':World}{v:Value}{x:Rat}(h:RatV W v x)(hb:Below W.heap.size W W'):RatV W' v x:=by
  obtain⟨p,l,c,q,m,d,rfl,h1,h2⟩:=h;exact⟨p,l,c,q,m,d,rfl,h1.below hb,h2.below hb⟩
def RefR(W:World)(v:Value)(x:Rat):Prop:= ∃nv dv,v=.agg #[.bool (isN x),nv,dv]∧RefV W nv x.num.natAbs∧RefV W dv (den0 x)
theorem RefR.below{W W':World}{v:Value}{x:Rat}(h:RefR W v x)(hb:Below W.heap.size W W'):RefR W' v x:=by
  obtain⟨nv,dv,rfl,h1,h2⟩:=h;exact⟨nv,dv,rfl,h1.below hb,h2.below hb⟩
theorem den0_ofS(s:Bool)(n:Nat){d:Nat}(h0:d≠0):den0 (ofS s n d)=if d/Nat.gcd n d=1 then 0 else d/Nat.gcd n d:=by
  unfold den0;rw[ofS_den s n h0]
theorem RatV.make{W:World}{p q:Option Addr}{l c m e:Nat}{b s:Bool}{n d a z:Nat}(h0:d≠0)(hb:b=(s&&decide (n≠0)))(ha:a=n/Nat.gcd n d)(hc:z=if d/Nat.gcd n d=1 then 0 else d/Nat.gcd n d)(hn:NatV W (.agg #[.slice p l c]) a)(hd:NatV W (.agg #[.slice q m e]) z):RatV W (.agg #[.bool b,.slice p l c,.slice q m e]) (ofS s n d):=by
  refine⟨p,l,c,q,m,e,by rw[ofS_isN s n h0,hb],?_,?_⟩
  · rw[ofS_num s n h0, ←ha];exact hn
  · rw[den0_ofS s n h0, ←hc];exact hd
theorem RefR.make{W:World}{nv dv:Value}{b s:Bool}{n d a c:Nat}(h0:d≠0)(hb:b=(s&&decide (n≠0)))(ha:a=n/Nat.gcd n d)(hc:c=if d/Nat.gcd n d=1 then 0 else d/Nat.gcd n d)(hn:RefV W nv a)(hd:RefV W dv c):RefR W (.agg #[.bool b,nv,dv]) (ofS s n d):=by
  refine⟨nv,dv,by rw[ofS_isN s n h0,hb],?_,?_⟩
  · rw[ofS_num s n h0, ←ha];exact hn
  · rw[den0_ofS s n h0, ←hc];exact hd
theorem Has.c3{base R:Nat}{w:World}{c0 c1 c2:Value}{t:TypeId}(h:Has base R (.cells #[c0,c1,c2] t) w):w.cell? ⟨R,0,none⟩=some c0∧w.cell? ⟨R,1,none⟩=some c1∧w.cell? ⟨R,2,none⟩=some c2:=by
  refine⟨?_,?_,?_⟩<;>simp[World.cell?,h.2]
theorem Has.f3{base R:Nat}{w:World}{c0 c1 c2:Value}{t:TypeId}(h:Has base R (.cells #[c0,c1,c2] t) w):∀o,w.frozen? ⟨R,o,none⟩=false:=by intro o;simp[World.frozen?,h.2]
theorem NatV.apart{W W':World}{v:Value}{n R:Nat}(h:NatV W v n)(hR:∀i,W.cell? ⟨R,0,none⟩≠some (.int .u32 i))(hsz:W.heap.size≤W'.heap.size)(hE:∀g,g≠R→W'.heap[g]?=W.heap[g]?):NatV W' v n:=by
  refine h.imp id fun⟨h0,g,c,e,t,hc⟩=>⟨h0,g,c,e,⟨Nat.lt_of_lt_of_le t.lt hsz,fun k hk=>?_⟩,hc⟩
  have hne:g≠R:=fun e=>by
    subst e;exact hR _ (t.at0 0 (by omega))
  rw[←t.at0 k hk];exact World.cell?_of_block (w:=W) (hE g hne)
def World.set3(W:World)(R:Nat)(x y z:Value):World:=((W.setCell ⟨R,0,none⟩ x).setCell ⟨R,1,none⟩ y).setCell ⟨R,2,none⟩ z
set_option maxRecDepth 100000 in
theorem one_any(v:Value)(n:Nat)(w:World)(hv:NatV w v n):
    Calls Tryz.prog 79 #[v] w fun e w'=>e=.returned (.bool (n==1))∧Below w.heap.size w w':=by
  have HU:=hid (fun w1 (hb:Below w.heap.size w w1)=>uint64_any v n w1 (hv.below hb));obtain⟨P,c,rfl,hp⟩:=hv.digp;have HI:=hid (show((n:Int)==1)=(n==1) by rw[Bool.eq_iff_iff];simp;omega)
  by_cases h:n<18446744073709551616
  · have h1:True:=trivial
    go_enter Tryz.func79,Tryz.ntmps79;go_upto_region 1 with(fail);obtain⟨W1,hW1,hsz,kA,hWb⟩:=box1_head (.slice P (digs B32 n).length c) 39 w;rw[←hW1];have b1:w.heap.size<W1.heap.size:=by omega
    have a0:=cell_box1 kA;clear hW1 hsz hp hv;go_wp2_with (go_at_call 113;refine(HU.out _ hWb).mono ?_;clear HU;rintro e W2 ⟨rfl,hw2⟩;have hb2:=hWb.trans (hw2.mono hWb.size);simp only[u64V,if_pos h,decide_eq_true h]);go_ret;exact⟨by rw[←HI.out];rfl,hb2⟩
  · have h1:¬n=1:=by omega
    go_enter Tryz.func79,Tryz.ntmps79;go_upto_region 1 with(fail);obtain⟨W1,hW1,hsz,kA,hWb⟩:=box1_head (.slice P (digs B32 n).length c) 39 w;rw[←hW1];have b1:w.heap.size<W1.heap.size:=by omega
    have a0:=cell_box1 kA;clear hW1 hsz hp hv;go_wp2_with (go_at_call 113;refine(HU.out _ hWb).mono ?_;clear HU;rintro e W2 ⟨rfl,hw2⟩;have hb2:=hWb.trans (hw2.mono hWb.size);simp only[u64V,if_neg h,decide_eq_false h]);go_ret;exact⟨by simp[h1],hb2⟩
set_option maxRecDepth 100000 in
theorem magnitude_any(z:Int)(w:World)(h0: -9223372036854775808≤z)(h1:z≤9223372036854775807):
    Calls Tryz.prog 39 #[.int .i64 z] w fun e w'=> ∃v,e=.returned (.tuple #[v,.bool (decide (z<0))])∧NatV w' v z.natAbs∧Below w.heap.size w w':=by
  have HO:=hid (fun w1=>of_any z.natAbs w1 (by omega));go_enter Tryz.func39,Tryz.ntmps39;go_upto_region 1 with(fail);obtain⟨W1,hW1,hsz,kA,hWb⟩:=box1_head (.slice none 0 0) 39 w;rw[←hW1];have b1:w.heap.size<W1.heap.size:=by omega
  have a0:=cell_box1 kA;clear hW1 hsz
  by_cases hn:z<0
  · have HW:=hid (show IntKind.u64.wrap (-IntKind.u64.wrap z)=(z.natAbs:Int) by simp only[IntKind.wrap,IntKind.bits,IntKind.signed,Bool.false_and,Bool.false_eq_true,if_false];omega)
    go_wp2_with (go_at_call 78;rw[HW.out];refine(HO.out _).mono ?_;clear HO;rintro e W2 ⟨v,rfl,hv,hw2⟩;have hb2:=hWb.trans (hw2.mono hWb.size);obtain⟨P,c,rfl,_⟩:=hv.digp;have k2:=(hw2.block _ b1).trans kA;have c2:=cell_box1 k2;have f2:=free_box1 k2;have l2:=Nat.lt_of_lt_of_le b1 hw2.size);exact bodyPost_ret (v:=.tuple #[.agg #[.slice P (digs B32 z.natAbs).length c],.bool true]) (by simp[results,Tryz.results39,go_sem,res_store k2]) rfl ⟨_,by rw[decide_eq_true hn],hv.store c2 _,hb2.setCell (p:=⟨w.heap.size,0,none⟩) (Nat.le_refl _) _⟩
  · have HW:=hid (show(z.natAbs:Int)=z by omega)
    rw[HW.out]at HO;go_wp2_with (go_at_call 78;refine(HO.out _).mono ?_;clear HO;rintro e W2 ⟨v,rfl,hv,hw2⟩;have hb2:=hWb.trans (hw2.mono hWb.size);obtain⟨P,c,rfl,_⟩:=hv.digp;have k2:=(hw2.block _ b1).trans kA;have c2:=cell_box1 k2;have f2:=free_box1 k2;have l2:=Nat.lt_of_lt_of_le b1 hw2.size);exact bodyPost_ret (v:=.tuple #[.agg #[.slice P (digs B32 z.natAbs).length c],.bool false]) (by simp[results,Tryz.results39,go_sem,res_store k2]) rfl ⟨_,by rw[decide_eq_false (by omega:¬z<0)],hv.store c2 _,hb2.setCell (p:=⟨w.heap.size,0,none⟩) (Nat.le_refl _) _⟩
end Go.Proofs.YtlhbcopaakejgaaGreatDoor
