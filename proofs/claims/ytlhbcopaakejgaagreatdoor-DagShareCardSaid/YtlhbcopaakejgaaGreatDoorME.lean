/- The reference's numbers: groups of six digits; append of a row of another type; without. The reference: without, carried. The reference: carried, times, Of. The reference: Add, Make. The reference: Make. The reference: Text. -/

import Derived.Laws.AppendOwnNone
import Derived.Laws.IdiomStrings
import Derived.Test.YtlhbcopaakejgaaGreatDoorMC
namespace Go.Proofs.YtlhbcopaakejgaaGreatDoor
open Go.RowKit
section
variable {P:Program}
theorem append_types{w:World}(t u ty e e':TypeId)(ht:P.underlying t=some (.slice e))(hu:P.underlying u=some (.slice e'))(p:Option Addr)(n c:Nat)(x:Value):
    (Builtin.append_ #[t,u] ty #[.slice p n c,x]).run P w=(Builtin.append_ #[t,t] ty #[.slice p n c,x]).run P w:=by
  simp[Builtin.append_,run_underlying ht,run_underlying hu]
theorem wpList_append_two{w:World}{ops:Array Oper}{rest:List Oper}{o:Oper}{a:Act}{Q:Exit→Act→World→Prop}(hgd:o.guard=none)(s x:Operand)(t u:TypeId)
    (ho:o.op=.call {callee:=.builtin .append,args:=#[s,x],argTypes:=#[t,u]})
    (base:Nat) (e e':TypeId) (i:TypeInfo) (z:Value) (bytes:Nat) (ht:P.underlying t=some (.slice e)) (hu:P.underlying u=some (.slice e')) (hi:P.info? e=some i) (hz:i.zero=some z)
    (hsize:i.size=1) (hby:i.bytes=bytes) (hzs:z.cells.size=1)
    (v:Value) (n:Nat) (xs:List Value) (hs:a.eval s=v) (hown:w.ownsRow base e 1 v n xs)
    (p:Option Addr) (m c:Nat) (news:List Value) (hx:a.eval x=.slice p m c) (hl:news.length=m) (hnews:m=0∨ ∃ad,p=some ad∧ ∀j u,news[j]?=some u→w.cell? (ad.add j)=some u) (h1:∀u∈news,u.oneCell'=true)
    (h63:n+m≤maxLen) (hbytes:(n+m)*bytes≤140737488355328) (hbase:base≤w.heap.size)
    (h:∀v' w',w'.ownsRow base e 1 v' (n+m) (xs++news)→w.grownBy w' v.ownBlock→wpList P ops Q rest (a.put o.dst v') w'):wpList P ops Q (o::rest) a w:=by
  refine wpList_plain hgd fun K hK=>?_
  obtain⟨pv,cv,rfl⟩:=row_slice hown
  have key:∃v' w',(Builtin.append_ #[t,t] o.type #[.slice pv n cv,.slice p m c]).run P w=.ok v' w'∧w'.ownsRow base e 1 v' (n+m) (xs++news)∧w.grownBy w' (Value.slice pv n cv).ownBlock:=by
    by_cases hp:∃ad,p=some ad
    · obtain⟨ad,rfl⟩:=hp
      have hn:∀j u,news[j]?=some u→w.cell? (ad.add j)=some u:=by
        rcases hnews with rfl|⟨ad',e1,h2⟩
        · intro j u hj
          rw[List.eq_nil_of_length_eq_zero hl]at hj;simp at hj
        · injection e1 with e1;subst e1;exact h2
      obtain⟨v',w',hr,h2,h3,_⟩:=run_append_own (P:=P) w base t o.type e i z 1 bytes ht hi hz hsize hby hzs (by decide) _ n xs hown ad m c news (by omega) hn h1 h63 hbytes hbase;exact⟨v',w',hr,h2,h3⟩
    · have hp0:p=none:=by cases p with
        |none=>rfl
        |some ad=>exact absurd ⟨ad,rfl⟩ hp
      subst hp0
      rcases hnews with rfl|⟨ad',e1,_⟩
      · have e0:news=[]:=List.eq_nil_of_length_eq_zero hl
        subst e0
        have e2:(Builtin.append_ #[t,t] o.type #[.slice pv n cv,.slice none 0 c]).run P w=.ok (.slice pv n cv) w:=by
          have hle:n≤cv:=by
            rcases hown.2 with⟨e3,rfl⟩|⟨g,cap,cur,e3,_,_,h4,_⟩
            · exact Nat.zero_le _
            · injection e3 with _ _ e4;omega
          cases pv<;>simp[Builtin.append_,run_underlying ht,sizeOf,typeInfo,hi,Builtin.lenOf,Builtin.firstCells,hle,loadCells,storeCells]
        exact⟨_,w,e2,by simpa using hown,⟨rfl,rfl,rfl,Nat.le_refl _,fun _ _ _=>rfl⟩⟩
      · cases e1
  obtain⟨v',w',hr,h2,h3⟩:=key;unfold Oper.wp execOp;simp only[ho,resolve,invoke,builtin,Sem.run_bind,Sem.run_pure,Result.andThen_ok,List.map_toArray,List.map_cons,List.map_nil,hs,hx,append_types t u o.type e e' ht hu,hr];exact hK _ _ (h v' w' h2 h3)
end
end Go.Proofs.YtlhbcopaakejgaaGreatDoor
namespace Go.Proofs.YtlhbcopaakejgaaGreatDoor
open Go.RowKit
def B6:Nat:=1000000
theorem b6:B6=1000000:=rfl
theorem b6_2:2≤B6:=by decide
def iCell(x:Nat):Value:=.int .i64 (x:Int)
structure GDig(W:World)(g:Nat)(xs:List Nat):Prop where
  lt:g<W.heap.size
  at0:∀k (h:k<xs.length),W.cell? ⟨g,k,none⟩=some (iCell xs[k])
theorem GDig.below{W W':World}{g:Nat}{xs:List Nat}(h:GDig W g xs)(hb:Below W.heap.size W W'):GDig W' g xs:=
  ⟨Nat.lt_of_lt_of_le h.lt hb.size,fun k hk=>(hb.cell (p:=⟨g,k,none⟩) h.lt).trans (h.at0 k hk)⟩
def GV(W:World)(s:Value)(xs:List Nat):Prop:=(xs=[]∧ ∃p c,s=.slice p 0 c)∨ ∃g c,s=.slice (some ⟨g,0,none⟩) xs.length c∧GDig W g xs∧xs.length≤c∧c≤maxLen
theorem GV.below{W W':World}{s:Value}{xs:List Nat}(h:GV W s xs)(hb:Below W.heap.size W W'):GV W' s xs:=
  h.imp id fun⟨g,c,e,t,hc⟩=>⟨g,c,e,t.below hb,hc⟩
theorem GV.slice{W:World}{s:Value}{xs:List Nat}(h:GV W s xs):∃p c,s=.slice p xs.length c∧(xs≠[]→ ∃g,p=some ⟨g,0,none⟩∧GDig W g xs∧xs.length≤c∧c≤maxLen):=by
  rcases h with⟨rfl,p,c,rfl⟩|⟨g,c,rfl,h1,h2⟩
  · exact⟨p,c,rfl,fun h=>absurd rfl h⟩
  · exact⟨_,c,rfl,fun _=>⟨g,rfl,h1,h2⟩⟩
def RowI(W:World)(base:Nat)(v:Value)(xs:List Nat):Prop:=W.ownsRow base 3 1 v xs.length (xs.map iCell)
theorem RowI.gv{W:World}{base:Nat}{v:Value}{xs:List Nat}(h:RowI W base v xs):GV W v xs:=by
  by_cases hn:xs=[]
  · subst hn
    obtain⟨p,c,e⟩:=row_slice h;exact .inl ⟨rfl,p,c,e⟩
  · rcases h.2 with⟨_,h0⟩|⟨g,cap,cur,rfl,hg,hb,hle,hm,hs,ht⟩
    · exact absurd (List.eq_nil_of_length_eq_zero h0) hn
    · refine .inr ⟨g,cap,rfl,⟨(Array.getElem?_eq_some_iff.1 hb).1,fun k hk=>?_⟩,hle,hm⟩
      obtain⟨g',cap',e0,_,hc⟩:=row1_cell h (by simp) (k:=k) (by simpa using hk)
      injection e0 with e1
      injection e1 with e1
      injection e1 with e1
      subst e1;rw[hc,List.getElem_map]
def RefV(W:World)(v:Value)(n:Nat):Prop:=GV W v (digs B6 n)
theorem RefV.below{W W':World}{s:Value}{n:Nat}(h:RefV W s n)(hb:Below W.heap.size W W'):RefV W' s n:=GV.below h hb
theorem infoI:(Tryz.prog.info? 3).map (fun i=>(i.zero,i.size,i.bytes))=some (some (.int .i64 0),1,8):=by kernel_rfl
theorem one_i(c:Nat):∀u∈[iCell c],u.oneCell'=true:=by
  intro u hu;simp only[List.mem_cons,List.not_mem_nil,or_false]at hu;rw[hu];rfl
theorem all_i(xs:List Nat):∀u∈xs.map iCell,u.oneCell'=true:=by
  intro u hu;obtain⟨x,_,rfl⟩:=List.mem_map.1 hu;rfl
theorem row_empty(W:World)(t:TypeId)(base:Nat)(hb:base≤W.heap.size):(W.alloc (.cells #[] t)).ownsRow base t 1 (.slice (some ⟨W.heap.size,0,none⟩) 0 0) 0 []:=
  ⟨rfl,.inr ⟨W.heap.size,0,#[],rfl,hb,heap_new W _,Nat.le_refl _,Nat.zero_le _,rfl,rfl⟩⟩
set_option maxRecDepth 100000 in
set_option maxHeartbeats 2000000 in
theorem without_any(v:Value)(xs:List Nat)(w:World)(hv:GV w v xs)(hl:xs.length≤1000000):
    Calls Tryz.prog 98 #[v] w fun e w'=> ∃v',e=.returned v'∧GV w' v' (trimD xs)∧Below w.heap.size w w':=by
  obtain⟨i0,hi,hz0,hz1,hz2⟩:=info_parts infoI;obtain⟨p,c,rfl,hpg⟩:=hv.slice;clear hv;go_enter Tryz.func98,Tryz.ntmps98;go_wp2_with fail;go_loop [0] (fun n=> ∃k:Nat,k≤xs.length∧n=.slice p k c∧RowKit.Hid (trimD xs=trimD (xs.take k))) (fun n=>sliceLen n)
  case atStart=>exact⟨xs.length,Nat.le_refl _,rfl,hid (by rw[List.take_length])⟩
  case round=>
    obtain⟨k,hk,rfl,HT⟩:=hrel
    by_cases hk0:k=0
    · subst hk0
      have HE:=hid (show trimD xs=[]from HT.out);go_wp2_with (at_builtin;go_loud (refine wpList_append_two rfl _ _ 44 43 rfl w.heap.size 3 3 i0 _ 8 Tryz.underlying44 Tryz.underlying43 hi hz0 hz1 hz2 rfl _ 0 [] rfl (row_empty w 3 _ (Nat.le_refl _)) p 0 c (([]:List Nat).map iCell) rfl (by simp;try omega) (.inl rfl) (all_i _) (by simp[maxLen];try omega) (by omega) (by simp) ?_;intro v' w2 hown hgr;have hb2:=((Below.refl w.heap.size w).alloc (Nat.le_refl _) _).grown hgr (by simp) (fun k' hk'=>by injection hk' with hk';subst hk';exact Nat.le_refl _)));go_ret;exact⟨_,rfl,by rw[HE.out];exact RowI.gv hown,hb2⟩
    · obtain⟨j,rfl⟩:∃j,k=j+1:=⟨k-1,by omega⟩
      have hj:j<xs.length:=by omega
      obtain⟨g,rfl,hg,hc1,hc2⟩:=hpg (fun e=>by subst e;simp at hj);have g0:=hg.at0 j hj;unfold iCell at g0;have hgt:(0:Int)<((j+1:Nat):Int):=by omega
      have hgl:=hg.lt
      by_cases hz:xs[j]=0
      · rw[hz]at g0
        have HZ:=hid (trim_take_zero hk hz);clear hz;go_wp2;go_round
        case rel=>exact⟨j,by omega,rfl,hid (HT.out.trans HZ.out)⟩
        case measure=>simp[sliceLen]
      · have hzi:(((xs[j]:Nat):Int)==0)=false:=by rw[beq_eq_false_iff_ne];omega
        have HE:=hid (HT.out.trans (trim_take_last hk hz));clear hz
        have hcell:∀t,∀i u,((xs.take (j+1)).map iCell)[i]?=some u→(w.alloc (.cells #[] t)).cell? ((⟨g,0,none⟩:Addr).add i)=some u:=by
          intro t i u hu;rw[add_at,((Below.refl w.heap.size w).alloc (Nat.le_refl _) _).cell (p:=⟨g,i,none⟩) hgl];obtain⟨hi',rfl⟩:=List.getElem?_eq_some_iff.1 hu;rw[List.length_map,List.length_take]at hi';rw[hg.at0 i (by omega)];simp
        go_wp2_with (at_builtin;go_loud (refine wpList_append_two rfl _ _ 44 43 rfl w.heap.size 3 3 i0 _ 8 Tryz.underlying44 Tryz.underlying43 hi hz0 hz1 hz2 rfl _ 0 [] rfl (row_empty w 3 _ (Nat.le_refl _)) (some ⟨g,0,none⟩) (j+1) c ((xs.take (j+1)).map iCell) rfl (by simp;try omega) (.inr ⟨_,rfl,hcell _⟩) (all_i _) (by simp[maxLen];try omega) (by omega) (by simp) ?_;intro v' w2 hown hgr;have hb2:=((Below.refl w.heap.size w).alloc (Nat.le_refl _) _).grown hgr (by simp) (fun k' hk'=>by injection hk' with hk';subst hk';exact Nat.le_refl _)));go_ret;refine⟨_,rfl,?_,hb2⟩;rw[HE.out];refine RowI.gv (base:=w.heap.size) ?_;unfold RowI;rw[List.length_take,Nat.min_eq_left hk]
        simpa using hown
end Go.Proofs.YtlhbcopaakejgaaGreatDoor
namespace Go.Proofs.YtlhbcopaakejgaaGreatDoor
open Go.RowKit
theorem RowI.nil(W:World)(base:Nat):RowI W base (.slice none 0 0) []:=⟨rfl,.inl ⟨rfl,rfl⟩⟩
theorem RowI.below{W W':World}{base:Nat}{v:Value}{xs:List Nat}(h:RowI W base v xs)(hb:Below W.heap.size W W'):RowI W' base v xs:=row_kept_low h hb
theorem RowI.push{W:World}{base n:Nat}{v:Value}{os:List Nat}{x:Nat}(h:W.ownsRow base 3 1 v (n+1) (os.map iCell++[iCell x]))(hn:n=os.length):RowI W base v (os++[x]):=by
  subst hn;unfold RowI;rw[List.length_append,List.length_singleton,List.map_append];exact h
structure CarAt(W0:World)(xs:List Nat)(v:Value)(i c:Nat)(wr:World):Prop where
  row:∃os,RowI wr W0.heap.size v os∧os.length=i∧(∀x∈os,x<B6)∧val B6 os+B6^i*c=val B6 (xs.take i)
  old:Below W0.heap.size W0 wr
  cb:c≤100000000000000000
  ib:i≤xs.length∨c*B6^(i-xs.length)≤100000000000000000
  lb:i≤xs.length+3
theorem CarAt.short{W0 wr:World}{xs:List Nat}{v:Value}{i c:Nat}(h:CarAt W0 xs v i c wr)(hg:i<xs.length∨0<c):i≤xs.length+2:=by
  rcases hg with hg|hg
  · omega
  · rcases h.ib with h1|h1
    · omega
    · refine Nat.le_of_not_lt fun hlt=>?_
      have h2:B6^3≤B6^(i-xs.length):=Nat.pow_le_pow_right (by decide) (by omega);have h3:1*B6^(i-xs.length)≤c*B6^(i-xs.length):=Nat.mul_le_mul_right _ hg;have h4:B6^3=1000000000000000000:=by decide
      omega
theorem car_val{xs os:List Nat}{i c x:Nat}(hv:val B6 os+B6^i*c=val B6 (xs.take i))(ho:os.length=i)(hx:val B6 (xs.take (i+1))=val B6 (xs.take i)+B6^i*x):
    val B6 (os++[(c+x)%1000000])+B6^(i+1)*((c+x)/1000000)=val B6 (xs.take (i+1)):=by
  rw[val_snoc,hx,ho,Nat.pow_succ,Nat.mul_assoc];generalize B6^i=p at*
  have e2:p*((c+x)%1000000)+p*(B6*((c+x)/1000000))=p*c+p*x:=by
    rw[←Nat.mul_add,b6,Nat.mod_add_div,Nat.mul_add]
  omega
theorem CarAt.step{W0 wr w':World}{xs os:List Nat}{v v':Value}{i c x:Nat}(h:CarAt W0 xs v i c wr)(_hr:RowI wr W0.heap.size v os)(ho:os.length=i)(hb:∀x∈os,x<B6)(hv:val B6 os+B6^i*c=val B6 (xs.take i))
    (hx:val B6 (xs.take (i+1))=val B6 (xs.take i)+B6^i*x) (hxb:x≤100000000000000000) (hx0:xs.length≤i→x=0) (hsh:i≤xs.length+2) (hown:RowI w' W0.heap.size v' (os++[(c+x)%1000000])) (hold:Below W0.heap.size W0 w'):
    CarAt W0 xs v' (i+1) ((c+x)/1000000) w':=by
  have hcb:=h.cb;refine⟨⟨_,hown,by simp[ho],?_,car_val hv ho hx⟩,hold,by omega,?_,by omega⟩
  · intro y hy
    rcases List.mem_append.1 hy with h1|h1
    · exact hb y h1
    · simp only[List.mem_cons,List.not_mem_nil,or_false]at h1;rw[h1,b6];omega
  · by_cases hi:i<xs.length
    · exact .inl hi
    · refine .inr ?_
      rw[hx0 (by omega),Nat.add_zero]
      rcases h.ib with h1|h1
      · have:i=xs.length:=by omega
        subst this;rw[show xs.length+1-xs.length=1 by omega,Nat.pow_one,b6];omega
      · rw[show i+1-xs.length=(i-xs.length)+1 by omega,Nat.pow_succ,Nat.mul_comm (B6^_), ←Nat.mul_assoc]
        refine Nat.le_trans (Nat.mul_le_mul_right _ ?_) h1;rw[b6];omega
set_option maxRecDepth 100000 in
set_option maxHeartbeats 2000000 in
theorem carried_any(v:Value)(xs:List Nat)(w:World)(hv:GV w v xs)(hl:xs.length≤900000)(hxb:∀x∈xs,x≤100000000000000000):
    Calls Tryz.prog 95 #[v] w fun e w'=> ∃v',e=.returned v'∧RefV w' v' (val B6 xs)∧Below w.heap.size w w':=by
  obtain⟨i0,hi,hz0,hz1,hz2⟩:=info_parts infoI;obtain⟨p,cp,rfl,hpg⟩:=hv.slice;have HXB:=hid hxb;have HPG:=hid hpg;clear hv hxb hpg;have hat0:CarAt w xs (.slice none 0 0) 0 0 w:=⟨⟨[],RowI.nil w _,rfl,fun x h=>absurd h (List.not_mem_nil),by simp[val]⟩,Below.refl _ _,by omega,.inl (Nat.zero_le _),by omega⟩;go_enter Tryz.func95,Tryz.ntmps95;go_wp2_with fail;go_loopw [3,4,5] (fun o c i wr=> ∃k cn:Nat,i=.int .i64 k∧c=.int .i64 (cn:Int)∧CarAt w xs o k cn wr) (fun _ c i _=>(xs.length-(intOf i).toNat)*1000000000000000000+(intOf c).toNat)
  case atStart=>exact⟨0,0,rfl,rfl,hat0⟩
  case round=>
    clear hat0;obtain⟨k,c,rfl,rfl,hat⟩:=hrel;generalize wr=W1 at hat⊢;generalize u3=o at hat⊢;obtain⟨os,hrow,hol,hob,hov⟩:=hat.row;have hold:=hat.old;have hcb:=hat.cb
    by_cases hlt:k<xs.length
    · obtain⟨g,rfl,hg,_,_⟩:=HPG.out (fun e=>by subst e;simp at hlt)
      have hg1:=(hg.below hold).at0 k hlt;have hgl:=Nat.lt_of_lt_of_le hg.lt hold.size;have hxk:=HXB.out _ (List.getElem_mem hlt);obtain⟨x,hx⟩:∃x,xs[k]=x:=⟨_,rfl⟩;have hsh:=hat.short (.inl hlt);have HS:=hid (fun v' w'=>hat.step (w':=w') (v':=v') hrow hol hob hov (by rw[val_take_succ hlt,hx]) (hx▸hxk) (fun h=>absurd hlt (by omega)) hsh);rw[hx]at hg1 hxk;unfold iCell at hg1;have hti:(k:Int)<(xs.length:Int):=by omega
      obtain⟨t,ht,ht2⟩:∃t:Nat,c+x=t∧(c:Int)+(x:Int)=(t:Int):=⟨_,rfl,by simp only[Int.natCast_add]⟩;have htb:t≤200000000000000000:=by omega
      rw[ht]at HS;clear hx ht hat hov;go_wp2_with (at_builtin;go_loud (refine wpList_append_own _ rfl _ _ 43 rfl w.heap.size 3 i0 _ 1 8 Tryz.underlying43 hi hz0 hz1 hz2 rfl (by decide) _ _ _ rfl (hrow.alloc _) ⟨W1.heap.size,0,none⟩ 1 1 [iCell (t%1000000)] rfl rfl (cells1_new W1 _ _) (one_i _) (by simp[maxLen];omega) (by omega) (by have:=hold.size;simp;omega) ?_;intro v' w7 hown' hgrow _;have hb7:=row1_step hold hrow (Nat.le_refl _) hold.size hgrow;have hat7:=HS.out v' w7 (RowI.push hown' rfl) hb7));go_roundw
      case rel=>exact⟨k+1,t/1000000,by go_num,rfl,hat7⟩
      case measure=>simp[intOf];omega
    · have hge:¬(k:Int)<(xs.length:Int):=by omega
      by_cases hc0:c=0
      · subst hc0
        rw[Nat.mul_zero,Nat.add_zero,List.take_of_length_le (by omega)]at hov;have HT:=hid (without_any o os W1 hrow.gv (by have:=hat.lb;omega));rw[←digs_val b6_2 hob,hov]at HT;go_wp2_with (go_at_call 98;refine HT.out.mono ?_;clear HT;rintro e w3 ⟨v',rfl,hv',hw3⟩);go_ret;exact⟨_,rfl,hv',hold.trans (hw3.mono hold.size)⟩
      · have hcg:(0:Int)<(c:Int):=by omega
        have hsh:=hat.short (.inr (by omega));have HS:=hid (fun v' w'=>hat.step (w':=w') (v':=v') (x:=0) hrow hol hob hov (by rw[List.take_of_length_le (by omega),List.take_of_length_le (by omega)];simp) (by omega) (fun _=>rfl) hsh);rw[Nat.add_zero]at HS;clear hat hov;go_wp2_with (at_builtin;go_loud (refine wpList_append_own _ rfl _ _ 43 rfl w.heap.size 3 i0 _ 1 8 Tryz.underlying43 hi hz0 hz1 hz2 rfl (by decide) _ _ _ rfl (hrow.alloc _) ⟨W1.heap.size,0,none⟩ 1 1 [iCell (c%1000000)] rfl rfl (cells1_new W1 _ _) (one_i _) (by simp[maxLen];omega) (by omega) (by have:=hold.size;simp;omega) ?_;intro v' w7 hown' hgrow _;have hb7:=row1_step hold hrow (Nat.le_refl _) hold.size hgrow;have hat7:=HS.out v' w7 (RowI.push hown' rfl) hb7));go_roundw
        case rel=>exact⟨k+1,c/1000000,by go_num,rfl,hat7⟩
        case measure=>simp[intOf];omega
theorem val_map_mul(m:Nat)(xs:List Nat):val B6 (xs.map fun x=>x*m)=val B6 xs*m:=by
  induction xs with
  |nil=>simp[val]
  |cons x xs ih=>simp only[List.map_cons,val,ih];rw[Nat.add_mul,Nat.mul_assoc]
set_option maxRecDepth 100000 in
set_option maxHeartbeats 2000000 in
theorem times_any(v:Value)(n m:Nat)(w:World)(hv:RefV w v n)(hl:(digs B6 n).length≤900000)(hm:m≤4294967296):
    Calls Tryz.prog 130 #[v,.int .i64 (m:Int)] w fun e w'=> ∃v',e=.returned v'∧RefV w' v' (n*m)∧Below w.heap.size w w':=by
  obtain⟨i0,hi,hz0,hz1,hz2⟩:=info_parts infoI;obtain⟨p,cp,rfl,hpg⟩:=GV.slice hv;have HPG:=hid hpg;have HXB:=hid (digs_lt b6_2 n);have HV:=hid (show val B6 ((digs B6 n).map fun x=>x*m)=n*m by rw[val_map_mul,val_digs b6_2]);obtain⟨xs,hxs⟩:∃xs,digs B6 n=xs:=⟨_,rfl⟩;rw[hxs]at HPG HXB HV hl⊢;clear hv hpg hxs;have hrow0:RowI w w.heap.size (.slice none 0 0) ((xs.take 0).map fun x=>x*m):=RowI.nil w _;go_enter Tryz.func130,Tryz.ntmps130;go_wp2_with fail;go_loopw [5,6] (fun o i wr=> ∃k:Nat,k≤xs.length∧i=.int .i64 k∧RowI wr w.heap.size o ((xs.take k).map fun x=>x*m)∧Below w.heap.size w wr) (fun _ i _=>xs.length-(intOf i).toNat)
  case atStart=>exact⟨0,Nat.zero_le _,rfl,hrow0,Below.refl _ _⟩
  case round=>
    clear hrow0;obtain⟨k,hk,rfl,hrow,hold⟩:=hrel;generalize wr=W1 at hrow hold⊢;generalize u5=o at hrow⊢
    by_cases hlt:k<xs.length
    · obtain⟨g,rfl,hg,_,_⟩:=HPG.out (fun e=>by subst e;simp at hlt)
      have hg1:=(hg.below hold).at0 k hlt;have hgl:=Nat.lt_of_lt_of_le hg.lt hold.size;have hxk:=HXB.out _ (List.getElem_mem hlt);have HN:=hid (show((xs.take k).map fun x=>x*m)++[xs[k]*m]=(xs.take (k+1)).map fun x=>x*m by rw[List.take_succ_eq_append_getElem hlt,List.map_append];rfl);obtain⟨x,hx⟩:∃x,xs[k]=x:=⟨_,rfl⟩;rw[hx]at hg1 hxk HN;unfold iCell at hg1;rw[b6]at hxk;have hti:(k:Int)<(xs.length:Int):=by omega
      have hmb:x*m≤1000000*4294967296:=Nat.mul_le_mul (by omega) hm;obtain⟨t,ht,ht2⟩:∃t:Nat,x*m=t∧(x:Int)*(m:Int)=(t:Int):=⟨_,rfl,by simp only[Int.natCast_mul]⟩;rw[ht]at HN hmb;have hln:((xs.take k).map fun x=>x*m).length=k:=by simp;omega
      clear hx ht;go_wp2_with (at_builtin;go_loud (refine wpList_append_own _ rfl _ _ 43 rfl w.heap.size 3 i0 _ 1 8 Tryz.underlying43 hi hz0 hz1 hz2 rfl (by decide) _ _ _ rfl (hrow.alloc _) ⟨W1.heap.size,0,none⟩ 1 1 [iCell t] rfl rfl (cells1_new W1 _ _) (one_i _) (by rw[hln];simp[maxLen];omega) (by rw[hln];omega) (by have:=hold.size;simp;omega) ?_;intro v' w7 hown' hgrow _;have hb7:=row1_step hold hrow (Nat.le_refl _) hold.size hgrow;have hr7:=RowI.push hown' rfl;rw[HN.out]at hr7));go_roundw
      case rel=>exact⟨k+1,by omega,by go_num,hr7,hb7⟩
      case measure=>simp[intOf];omega
    · obtain rfl:k=xs.length:=by omega
      rw[List.take_length]at hrow
      have HT:=hid (carried_any o _ W1 hrow.gv (by simpa using hl) (by
        intro y hy;obtain⟨x,hx,rfl⟩:=List.mem_map.1 hy;have h1:=HXB.out x hx;rw[b6]at h1;have:x*m≤1000000*4294967296:=Nat.mul_le_mul (by omega) hm;omega))
      rw[HV.out]at HT;go_wp2_with (go_at_call 95;refine HT.out.mono ?_;clear HT;rintro e w3 ⟨v',rfl,hv',hw3⟩);go_ret;exact⟨_,rfl,hv',hold.trans (hw3.mono hold.size)⟩
set_option maxRecDepth 100000 in
set_option maxHeartbeats 2000000 in
theorem rof_any(n:Nat)(w:World)(hn:n<18446744073709551616):
    Calls Tryz.prog 96 #[.int .u64 (n:Int)] w fun e w'=> ∃v',e=.returned v'∧RefV w' v' n∧Below w.heap.size w w':=by
  obtain⟨i0,hi,hz0,hz1,hz2⟩:=info_parts infoI;go_enter Tryz.func96,Tryz.ntmps96;go_wp2_with fail;go_loopw [0,3] (fun nv o wr=> ∃(m:Nat) (os:List Nat),nv=.int .u64 (m:Int)∧m<18446744073709551616∧RowI wr w.heap.size o os∧RowKit.Hid ((∀x∈os,x<B6)∧val B6 os+B6^os.length*m=n)∧os.length≤4∧(0<m→os.length≤3)∧Below w.heap.size w wr) (fun nv _ _=>(intOf nv).toNat)
  case atStart=>exact⟨n,[],rfl,hn,RowI.nil w _,hid ⟨fun x h=>absurd h (List.not_mem_nil),by simp[val]⟩,by simp,by simp,Below.refl _ _⟩
  case round=>
    obtain⟨m,os,rfl,hm,hrow,HI,h4,h3,hold⟩:=hrel;generalize wr=W1 at hrow hold⊢;generalize u3=o at hrow⊢
    by_cases hm0:m=0
    · subst hm0
      have hov:=HI.out.2;rw[Nat.mul_zero,Nat.add_zero]at hov;have HT:=hid (without_any o os W1 hrow.gv (by omega));rw[←digs_val b6_2 HI.out.1,hov]at HT;go_wp2_with (go_at_call 98;refine HT.out.mono ?_;clear HT;rintro e w3 ⟨v',rfl,hv',hw3⟩);go_ret;exact⟨_,rfl,hv',hold.trans (hw3.mono hold.size)⟩
    · have hmp:(0:Int)<(m:Int):=by omega
      have h3':=h3 (by omega)
      have HN:=hid (show(∀x∈os++[m%1000000],x<B6)∧val B6 (os++[m%1000000])+B6^(os++[m%1000000]).length*(m/1000000)=n by
        refine⟨fun y hy=>?_,?_⟩
        · rcases List.mem_append.1 hy with h1|h1
          · exact HI.out.1 y h1
          · simp only[List.mem_cons,List.not_mem_nil,or_false]at h1;rw[h1,b6];omega
        · rw[val_snoc,List.length_append,List.length_singleton,Nat.pow_succ,Nat.mul_assoc, ←HI.out.2,Nat.add_assoc, ←Nat.mul_add,b6,Nat.mod_add_div])
      have hlast:0<m/1000000→(os++[m%1000000]).length≤3:=fun h=>by
        have h1:=HI.out.2;refine Nat.le_of_not_lt fun hlt=>?_
        rw[List.length_append,List.length_singleton]at hlt;have h5:os.length=3:=by omega
        rw[h5,show B6^3=1000000000000000000 by decide]at h1;omega
      go_wp2_with (at_builtin;go_loud (refine wpList_append_own _ rfl _ _ 43 rfl w.heap.size 3 i0 _ 1 8 Tryz.underlying43 hi hz0 hz1 hz2 rfl (by decide) _ _ _ rfl (hrow.alloc _) ⟨W1.heap.size,0,none⟩ 1 1 [iCell (m%1000000)] rfl rfl (cells1_new W1 _ _) (one_i _) (by simp[maxLen];omega) (by omega) (by have:=hold.size;simp;omega) ?_;intro v' w7 hown' hgrow _;have hb7:=row1_step hold hrow (Nat.le_refl _) hold.size hgrow;have hr7:=RowI.push hown' rfl));go_roundw
      case rel=>exact⟨m/1000000,_,rfl,by omega,hr7,HN,by rw[List.length_append,List.length_singleton];omega,hlast,hb7⟩
      case measure=>
        show((m:Int)/1000000).toNat<((m:Int)).toNat
        omega
end Go.Proofs.YtlhbcopaakejgaaGreatDoor
namespace Go.Proofs.YtlhbcopaakejgaaGreatDoor
open Go.RowKit
def ArrI(W:World)(D:Nat)(xs:List Nat):Prop:=W.heap[D]?=some (.cells (xs.map iCell).toArray 3 (0,0))
theorem ArrI.lt{W:World}{D:Nat}{xs:List Nat}(h:ArrI W D xs):D<W.heap.size:=(Array.getElem?_eq_some_iff.1 h).1
theorem ArrI.cell{W:World}{D:Nat}{xs:List Nat}(h:ArrI W D xs)(k:Nat)(hk:k<xs.length):W.cell? ⟨D,k,none⟩=some (.int .i64 (xs[k]:Int)):=by
  unfold World.cell?;rw[show W.heap[(⟨D,k,none⟩:Addr).block]?=_ from h];simp[hk,iCell]
theorem ArrI.free{W:World}{D:Nat}{xs:List Nat}(h:ArrI W D xs):∀o,W.frozen? ⟨D,o,none⟩=false:=by
  intro o;unfold World.frozen?;rw[show W.heap[(⟨D,o,none⟩:Addr).block]?=_ from h];simp
theorem ArrI.below{W W':World}{D:Nat}{xs:List Nat}(h:ArrI W D xs)(hb:Below W.heap.size W W'):ArrI W' D xs:=(hb.block _ h.lt).trans h
theorem ArrI.store{W:World}{D:Nat}{xs:List Nat}(h:ArrI W D xs)(k v:Nat):ArrI (W.setCell ⟨D,k,none⟩ (.int .i64 (v:Int))) D (xs.set k v):=by
  unfold ArrI;rw[heap_setCell_at h];simp[List.map_set,iCell]
theorem ArrI.gv{W:World}{D:Nat}{xs:List Nat}(h:ArrI W D xs)(hl:xs.length≤maxLen):GV W (.slice (some ⟨D,0,none⟩) xs.length xs.length) xs:=
  .inr ⟨D,_,rfl,⟨h.lt,h.cell⟩,Nat.le_refl _,hl⟩
theorem ari_made{W:World}{base g n:Nat}(h:W.ownsRow base 3 1 (.slice (some ⟨g,0,none⟩) n n) n (madeCells (Value.int .i64 0).cells (n*1)).toList):ArrI W g (List.replicate n 0):=by
  rcases h.2 with⟨e,_⟩|⟨g',cap,cur,e,_,hg,_,_,hs,ht⟩
  · cases e
  · injection e with e1 _ e3
    injection e1 with e1
    injection e1 with e1
    subst e1 e3
    have h1:cur.toList=List.replicate n (Value.int .i64 0):=by
      have h2:(madeCells (Value.int .i64 0).cells (n*1)).toList=List.replicate n (.int .i64 0):=by
        rw[Nat.mul_one];exact toList_madeCells_one _ n
      rw[h2,List.take_of_length_le (by rw[Array.length_toList,hs];omega)]at ht;exact ht
    unfold ArrI;rw[hg]
    congr 2
    rw[←Array.toArray_toList (xs:=cur),h1,List.map_replicate];rfl
theorem val_set_add{B:Nat}:∀(ys:List Nat) (k x:Nat) (h:k<ys.length),val B (ys.set k (ys[k]+x))=val B ys+B^k*x
  |y::ys,0,x,_=>by simp only[List.set_cons_zero,val,List.getElem_cons_zero,Nat.pow_zero];omega
  | y::ys,k+1,x,h=>by
    simp only[List.set_cons_succ,val,List.getElem_cons_succ,val_set_add ys k x (by simpa using h),Nat.pow_succ];rw[Nat.mul_add,Nat.mul_comm (B^k) B,Nat.mul_assoc];omega
structure RAdd(W0:World)(D L V M:Nat)(xs:List Nat)(k:Nat)(wr:World):Prop where
  arr:∃ys,ArrI wr D ys∧ys.length=L∧(∀y∈ys,y≤M+1000000*k)∧val B6 ys=V+val B6 (xs.take k)
  old:Below D W0 wr
theorem RAdd.step{W0 wr w':World}{D L V M:Nat}{xs ys:List Nat}{k x y:Nat}(h:RAdd W0 D L V M xs k wr)(ha:ArrI w' D ys)(hb:Below wr.heap.size wr w')(hyl:ys.length=L)(hym:∀y∈ys,y≤M+1000000*k)(hyv:val B6 ys=V+val B6 (xs.take k))
    (hk:k<xs.length) (hL:xs.length≤L) (hx:xs[k]=x) (hx1:x<1000000) (hy:ys[k]'(by omega)=y):RAdd W0 D L V M xs (k+1) (w'.setCell ⟨D,k,none⟩ (.int .i64 ((y+x:Nat):Int))):=by
  have hD:D≤wr.heap.size:=by
    obtain⟨zs,h1,_⟩:=h.arr;exact Nat.le_of_lt h1.lt
  refine⟨⟨ys.set k (y+x),ha.store _ _,by simpa using hyl,fun z hz=>?_,?_⟩,(h.old.trans (hb.mono hD)).setCell (p:=⟨D,k,none⟩) (Nat.le_refl _) _⟩
  · rcases List.mem_or_eq_of_mem_set hz with h1|h1
    · have:=hym z h1;omega
    · have:=hym y (hy▸List.getElem_mem _);omega
  · rw[←hy,val_set_add ys k x (by omega),hyv,val_take_succ hk,hx];omega
set_option maxRecDepth 100000 in
set_option maxHeartbeats 4000000 in
theorem radd_any(v u:Value)(n m:Nat)(w:World)(hv:RefV w v n)(hu:RefV w u m)(h1:(digs B6 n).length≤100000)(h2:(digs B6 m).length≤100000):
    Calls Tryz.prog 65 #[v,u] w fun e w'=> ∃v',e=.returned v'∧RefV w' v' (n+m)∧Below w.heap.size w w':=by
  obtain⟨i0,hi,hz0,hz1,hz2⟩:=info_parts infoI;obtain⟨p,cp,rfl,hpg⟩:=GV.slice hv;obtain⟨q,cq,rfl,hqg⟩:=GV.slice hu;have HPG:=hid hpg;have HQG:=hid hqg;have HXB:=hid (digs_lt b6_2 n);have HYB:=hid (digs_lt b6_2 m);have HVN:=hid (val_digs b6_2 n);have HVM:=hid (val_digs b6_2 m);obtain⟨xs,hxs⟩:∃xs,digs B6 n=xs:=⟨_,rfl⟩;obtain⟨ys,hys⟩:∃ys,digs B6 m=ys:=⟨_,rfl⟩;rw[hxs]at HPG HXB HVN h1⊢;rw[hys]at HQG HYB HVM h2⊢;clear hv hpg hxs hu hqg hys;obtain⟨L,hL,hL1,hL2,hL3⟩:∃L:Nat,max (xs.length:Int) (ys.length:Int)=(L:Int)∧xs.length≤L∧ys.length≤L∧L≤100000:=⟨max xs.length ys.length,by omega,by omega,by omega,by omega⟩;go_enter Tryz.func65,Tryz.ntmps65;go_upto_region 2 with(at_make;go_loud (refine wpList_make_full _ rfl _ _ _ rfl w.heap.size 3 i0 _ 1 Tryz.underlying43 hi hz0 hz1 _ _ _ _ L rfl rfl (by simp) (by simp) (by rw[hz2];omega) (by unfold maxLen;omega) (Nat.le_refl _) ?_;intro w2 hown hgr;have hb2:Below w.heap.size w w2:=(Below.refl _ w).grown hgr (Nat.le_refl _) (by simp);have hA:=ari_made hown;clear hown hgr));clear hL;have hat0:RAdd w w.heap.size L 0 0 xs 0 w2:=⟨⟨_,hA,by simp,fun y hy=>by rw[List.eq_of_mem_replicate hy];omega,by simp[val,val_replicate]⟩,hb2⟩;clear hA hb2;go_wp2_with fail;go_loopw [6] (fun i wr=> ∃k:Nat,k≤xs.length∧i=.int .i64 k∧RAdd w w.heap.size L 0 0 xs k wr) (fun i _=>xs.length-(intOf i).toNat)
  case atStart=>exact⟨0,Nat.zero_le _,rfl,hat0⟩
  case round=>
    clear hat0;obtain⟨k,hk,rfl,hat⟩:=hrel;generalize wr=W1 at hat⊢;have hold:=hat.old;obtain⟨zs,hzs,hzl,hzm,hzv⟩:=hat.arr
    by_cases hlt:k<xs.length
    · obtain⟨g,rfl,hg,_,_⟩:=HPG.out (fun e=>by subst e;simp at hlt)
      have hg1:=(hg.below hold).at0 k hlt;have hgl:=Nat.lt_of_lt_of_le hg.lt hold.size;have hxk:=HXB.out _ (List.getElem_mem hlt);have hzk:k<zs.length:=by omega
      have hz1:=hzs.cell k hzk;have hzm1:=hzm _ (List.getElem_mem hzk);have hfr:=hzs.free;have hDl:=hzs.lt;have hti:(k:Int)<(xs.length:Int):=by omega
      have HS:=hid (fun w' (hb:Below W1.heap.size W1 w')=>hat.step (hzs.below hb) hb hzl hzm hzv hlt hL1 rfl hxk rfl);obtain⟨x,hx⟩:∃x,xs[k]=x:=⟨_,rfl⟩;obtain⟨z,hz⟩:∃z,zs[k]=z:=⟨_,rfl⟩;rw[hx]at hg1 hxk HS;rw[hz]at hz1 hzm1 HS;unfold iCell at hg1;rw[b6]at hxk;have hkL:(k:Int)<(L:Int):=by omega
      clear hx hz hzv hat;go_upto_region 5 with(fail);refine wp_region_staged (fun w'=>Below W1.heap.size W1 w') [0,0,0,1,0,0,0,1,0,0,2] (by kernel_rfl) (by kernel_rfl) (by kernel_rfl) (by exact(Below.refl _ _).drew) ?_;apply lexF rfl;(· intro _;go_simp;(try go_bits);exact⟨rfl,rfl⟩);simp only[Act.put,List.setIfInBounds_toArray,List.set_cons_zero,List.set_cons_succ];apply lexF rfl;(· intro _;go_simp;(try go_bits);exact⟨rfl,rfl⟩);simp only[Act.put,List.setIfInBounds_toArray,List.set_cons_zero,List.set_cons_succ];apply lexF rfl;(· intro _;go_simp;(try go_bits);exact⟨rfl,rfl⟩);simp only[Act.put,List.setIfInBounds_toArray,List.set_cons_zero,List.set_cons_succ];apply lexH rfl;(· intro w' hw';have hcc:=cellsBelow hw';go_simp;(try go_bits);exact⟨rfl,hw'⟩);simp only[Act.put,List.setIfInBounds_toArray,List.set_cons_zero,List.set_cons_succ];apply lexF rfl;(· intro _;go_simp;(try go_bits);exact⟨rfl,rfl⟩);simp only[Act.put,List.setIfInBounds_toArray,List.set_cons_zero,List.set_cons_succ];apply lexF rfl;(· intro _;go_simp;(try go_bits);exact⟨rfl,rfl⟩);simp only[Act.put,List.setIfInBounds_toArray,List.set_cons_zero,List.set_cons_succ];apply lexF rfl;(· intro _;go_simp;(try go_bits);exact⟨rfl,rfl⟩);simp only[Act.put,List.setIfInBounds_toArray,List.set_cons_zero,List.set_cons_succ];apply lexH rfl;(· intro w' hw';have hcc:=cellsBelow hw';go_simp;(try go_bits);exact⟨rfl,hw'⟩);simp only[Act.put,List.setIfInBounds_toArray,List.set_cons_zero,List.set_cons_succ];apply lexF rfl;(· intro _;go_simp;(try go_bits);exact⟨rfl,rfl⟩);simp only[Act.put,List.setIfInBounds_toArray,List.set_cons_zero,List.set_cons_succ];apply lexF rfl;(· intro _;go_simp;(try go_bits);exact⟨rfl,rfl⟩);simp only[Act.put,List.setIfInBounds_toArray,List.set_cons_zero,List.set_cons_succ];apply lexS (fun w'=>RAdd w w.heap.size L 0 0 xs (k+1) w') rfl
      · intro w' hw'
        have c0:=(hzs.below hw').cell k hzk;have f0:=(hzs.below hw').free;go_simp;exact⟨rfl,HS.out w' hw'⟩
      simp only[Act.put];refine lexEnd (fun W5 hw5=>?_);go_wp2;go_roundw
      case rel=>exact⟨k+1,by omega,by go_num,hw5⟩
      case measure=>simp[intOf];omega
    · obtain rfl:k=xs.length:=by omega
      skip
      have hat1:RAdd w w.heap.size L n (1000000*xs.length) ys 0 W1:=⟨⟨zs,hzs,hzl,fun y hy=>by have:=hzm y hy;omega,by rw[hzv,List.take_length,HVN.out];simp[val]⟩,hold⟩;clear hat hzs hzl hzm hzv hold;go_wp2_with fail;go_loopw [7] (fun i wr=> ∃k:Nat,k≤ys.length∧i=.int .i64 k∧RAdd w w.heap.size L n (1000000*xs.length) ys k wr) (fun i _=>ys.length-(intOf i).toNat)
      case atStart=>exact⟨0,Nat.zero_le _,rfl,hat1⟩
      case round=>
        clear hat1;obtain⟨k,hk,rfl,hat⟩:=hrel;generalize wr=W2 at hat⊢;have hold:=hat.old;obtain⟨zs,hzs,hzl,hzm,hzv⟩:=hat.arr
        by_cases hlt:k<ys.length
        · obtain⟨g,rfl,hg,_,_⟩:=HQG.out (fun e=>by subst e;simp at hlt)
          have hg1:=(hg.below hold).at0 k hlt;have hgl:=Nat.lt_of_lt_of_le hg.lt hold.size;have hxk:=HYB.out _ (List.getElem_mem hlt);have hzk:k<zs.length:=by omega
          have hz1:=hzs.cell k hzk;have hzm1:=hzm _ (List.getElem_mem hzk);have hfr:=hzs.free;have hDl:=hzs.lt;have hti:(k:Int)<(ys.length:Int):=by omega
          have HS:=hid (fun w' (hb:Below W2.heap.size W2 w')=>hat.step (hzs.below hb) hb hzl hzm hzv hlt hL2 rfl hxk rfl);obtain⟨x,hx⟩:∃x,ys[k]=x:=⟨_,rfl⟩;obtain⟨z,hz⟩:∃z,zs[k]=z:=⟨_,rfl⟩;rw[hx]at hg1 hxk HS;rw[hz]at hz1 hzm1 HS;unfold iCell at hg1;rw[b6]at hxk;have hkL:(k:Int)<(L:Int):=by omega
          clear hx hz hzv hat;go_upto_region 9 with(fail);refine wp_region_staged (fun w'=>Below W2.heap.size W2 w') [0,0,0,1,0,0,0,1,0,0,2] (by kernel_rfl) (by kernel_rfl) (by kernel_rfl) (by exact(Below.refl _ _).drew) ?_;apply lexF rfl;(· intro _;go_simp;(try go_bits);exact⟨rfl,rfl⟩);simp only[Act.put,List.setIfInBounds_toArray,List.set_cons_zero,List.set_cons_succ];apply lexF rfl;(· intro _;go_simp;(try go_bits);exact⟨rfl,rfl⟩);simp only[Act.put,List.setIfInBounds_toArray,List.set_cons_zero,List.set_cons_succ];apply lexF rfl;(· intro _;go_simp;(try go_bits);exact⟨rfl,rfl⟩);simp only[Act.put,List.setIfInBounds_toArray,List.set_cons_zero,List.set_cons_succ];apply lexH rfl;(· intro w' hw';have hcc:=cellsBelow hw';go_simp;(try go_bits);exact⟨rfl,hw'⟩);simp only[Act.put,List.setIfInBounds_toArray,List.set_cons_zero,List.set_cons_succ];apply lexF rfl;(· intro _;go_simp;(try go_bits);exact⟨rfl,rfl⟩);simp only[Act.put,List.setIfInBounds_toArray,List.set_cons_zero,List.set_cons_succ];apply lexF rfl;(· intro _;go_simp;(try go_bits);exact⟨rfl,rfl⟩);simp only[Act.put,List.setIfInBounds_toArray,List.set_cons_zero,List.set_cons_succ];apply lexF rfl;(· intro _;go_simp;(try go_bits);exact⟨rfl,rfl⟩);simp only[Act.put,List.setIfInBounds_toArray,List.set_cons_zero,List.set_cons_succ];apply lexH rfl;(· intro w' hw';have hcc:=cellsBelow hw';go_simp;(try go_bits);exact⟨rfl,hw'⟩);simp only[Act.put,List.setIfInBounds_toArray,List.set_cons_zero,List.set_cons_succ];apply lexF rfl;(· intro _;go_simp;(try go_bits);exact⟨rfl,rfl⟩);simp only[Act.put,List.setIfInBounds_toArray,List.set_cons_zero,List.set_cons_succ];apply lexF rfl;(· intro _;go_simp;(try go_bits);exact⟨rfl,rfl⟩);simp only[Act.put,List.setIfInBounds_toArray,List.set_cons_zero,List.set_cons_succ];apply lexS (fun w'=>RAdd w w.heap.size L n (1000000*xs.length) ys (k+1) w') rfl
          · intro w' hw'
            have c0:=(hzs.below hw').cell k hzk;have f0:=(hzs.below hw').free;go_simp;exact⟨rfl,HS.out w' hw'⟩
          simp only[Act.put];refine lexEnd (fun W5 hw5=>?_);go_wp2;go_roundw
          case rel=>exact⟨k+1,by omega,by go_num,hw5⟩
          case measure=>simp[intOf];omega
        · obtain rfl:k=ys.length:=by omega
          skip
          rw[List.take_length,HVM.out]at hzv;have HT:=hid (carried_any _ zs W2 (hzs.gv (by unfold maxLen;omega)) (by omega) (fun y hy=>by have:=hzm y hy;omega));rw[hzv,hzl]at HT;go_wp2_with (go_at_call 95;refine HT.out.mono ?_;clear HT;rintro e w3 ⟨v',rfl,hv',hw3⟩);go_ret;exact⟨_,rfl,hv',hold.trans (hw3.mono hold.size)⟩
end Go.Proofs.YtlhbcopaakejgaaGreatDoor
namespace Go.Proofs.YtlhbcopaakejgaaGreatDoor
open Go.RowKit
def InV(W:World)(s:Value)(ds:List Nat):Prop:=(ds=[]∧ ∃p c,s=.slice p 0 c)∨ ∃b off c,s=.slice (some ⟨b,off,none⟩) ds.length c∧b<W.heap.size∧ ∀k (h:k<ds.length),W.cell? ⟨b,off+k,none⟩=some (.int .u32 (ds[k]:Int))
theorem InV.below{W W':World}{s:Value}{ds:List Nat}(h:InV W s ds)(hb:Below W.heap.size W W'):InV W' s ds:=
  h.imp id fun⟨b,o,c,e,h1,h2⟩=>⟨b,o,c,e,Nat.lt_of_lt_of_le h1 hb.size,fun k hk=>(hb.cell (p:=⟨b,o+k,none⟩) h1).trans (h2 k hk)⟩
theorem InV.slice{W:World}{s:Value}{ds:List Nat}(h:InV W s ds):∃p c,s=.slice p ds.length c∧(ds≠[]→ ∃b off,p=some ⟨b,off,none⟩∧b<W.heap.size∧ ∀k (h:k<ds.length),W.cell? ⟨b,off+k,none⟩=some (.int .u32 (ds[k]:Int))):=by
  rcases h with⟨rfl,p,c,rfl⟩|⟨b,off,c,rfl,h1,h2⟩
  · exact⟨p,c,rfl,fun h=>absurd rfl h⟩
  · exact⟨_,c,rfl,fun _=>⟨b,off,rfl,h1,h2⟩⟩
theorem digs6_len{n L:Nat}(h:n<B32^L):(digs B6 n).length≤2*L:=by
  refine digs_len_le b6_2 _ _ (Nat.lt_of_lt_of_le h ?_);have h1:B32^L≤(B6^2)^L:=Nat.pow_le_pow_left (by decide) L
  rwa [←Nat.pow_mul]at h1
theorem RefV.nil(W:World)(t:TypeId):RefV (W.alloc (.cells #[] t)) (.slice (some ⟨W.heap.size,0,none⟩) 0 0) 0:=.inl ⟨digs_zero,_,_,rfl⟩
end Go.Proofs.YtlhbcopaakejgaaGreatDoor
namespace Go.Proofs.YtlhbcopaakejgaaGreatDoor
open Go.RowKit
open Go.Lib (decDigits)
def decE(n:Nat):List UInt8:=if n=0 then[]else decDigits n
theorem decE_step{q:Nat}(h:q≠0):decE q=decE (q/10)++[chr (q%10)]:=by
  unfold decE;rw[if_neg h]
  by_cases h1:q<10
  · rw[dec_small h1,Nat.div_eq_of_lt h1,if_pos rfl,Nat.mod_eq_of_lt h1];rfl
  · rw[dec_big h1,if_neg (by omega)]
theorem digs_at:∀(i n:Nat) (h:i<(digs B6 n).length),(digs B6 n)[i]=n/B6^i%B6
  | 0,n,h=>by
    have hn:n≠0:=fun e=>by subst e;rw[digs_zero]at h;cases h
    simp only[digs_pos b6_2 hn,List.getElem_cons_zero,Nat.pow_zero,Nat.div_one]
  | i+1,n,h=>by
    have hn:n≠0:=fun e=>by subst e;rw[digs_zero]at h;cases h
    have h2:i<(digs B6 (n/B6)).length:=by rw[digs_pos b6_2 hn]at h;simpa using h
    have ih:=digs_at i (n/B6) h2;simp only[digs_pos b6_2 hn,List.getElem_cons_succ];rw[ih,Nat.div_div_eq_div_mul,Nat.pow_succ,Nat.mul_comm]
theorem digs_over{i n:Nat}:n/B6^i≠0↔i<(digs B6 n).length:=by
  constructor
  · intro h
    refine digs_len_ge b6_2 i n ?_;exact Nat.le_of_not_lt fun hlt=>h (Nat.div_eq_of_lt hlt)
  · intro h h0
    have:n<B6^i:=Nat.lt_of_not_le fun hle=>by
      have:=Nat.div_pos hle (Nat.pow_pos (by decide:0<B6));omega
    have:=digs_len_le b6_2 i n this;omega
def Wrote(n q:Nat)(s:ByteArray):Prop:=decE n=decE q++s.data.toList
theorem Wrote.size{n q L:Nat}{s:ByteArray}(h:Wrote n q s)(hL:(decE n).length≤L):s.size≤L:=by
  unfold Wrote at h;rw[h,List.length_append,str_len]at hL;omega
theorem Wrote.step{n q:Nat}{s:ByteArray}(h:Wrote n q s)(hq:q≠0):Wrote n (q/10) (⟨#[chr (q%10)]⟩++s):=by
  unfold Wrote at h⊢;rw[h,decE_step hq,Go.Joins.data_append,List.append_assoc]
theorem conv_one(W:World)(d:Nat)(hd:d<10):(convert 112 9 (.slice (some ⟨W.heap.size,0,none⟩) 1 1)).run Tryz.prog (W.alloc (.cells #[.int .u8 (48+(d:Int))] 5))=.ok (.string ⟨#[chr d]⟩) (W.alloc (.cells #[.int .u8 (48+(d:Int))] 5)):=
  run_convert_bytes_back _ _ _ 5 ⟨W.heap.size,0,none⟩ 1 [chr d] Tryz.underlying112 Tryz.underlying5 Tryz.underlying9 (fun j hj=>by
    have:j=0:=by simpa using hj
    subst this;rw[add_at,cell_box1 (heap_new W _)];simp only[List.getElem_cons_zero,chr_nat hd];rfl)
theorem group_mod(M k:Nat)(hk:k<6):M%1000000/10^k%10=M/10^k%10:=by
  match k,hk with
  |0,_=>simp only[Nat.pow_zero];omega
  |1,_=>rw[show 10^1=10 from rfl];omega
  |2,_=>rw[show 10^2=100 from rfl];omega
  |3,_=>rw[show 10^3=1000 from rfl];omega
  |4,_=>rw[show 10^4=10000 from rfl];omega
  |5,_=>rw[show 10^5=100000 from rfl];omega
theorem group_ne{M k G:Nat}(hk:k<6)(hG:G=M%1000000/10^k)(h:M/1000000≠0∨0<G):M/10^k≠0:=by
  have hp:0<10^k:=Nat.pow_pos (by decide);have hle:10^k≤10^6:=Nat.pow_le_pow_right (by decide) (by omega);have h6:10^6=1000000:=rfl
  have:10^k≤M:=by
    rcases h with h|h
    · have:1000000≤M:=Nat.le_of_not_lt fun h'=>h (Nat.div_eq_of_lt h')
      omega
    · rw[hG]at h
      have:10^k≤M%1000000:=Nat.le_of_not_lt fun h'=>by rw[Nat.div_eq_of_lt h']at h;omega
      have:=Nat.mod_le M 1000000;omega
  have:=Nat.div_pos this hp;omega
theorem group_end{M k G q:Nat}(hk:k≤6)(hG:G=M%1000000/10^k)(hq:q=M/10^k)(h:¬(k<6∧(M/1000000≠0∨0<G))):q=M/1000000:=by
  by_cases h6:k=6
  · rw[hq,h6]
  · have h7:M/1000000=0:=Decidable.byContradiction fun h'=>h ⟨by omega,.inl h'⟩
    have h8:G=0:=Decidable.byContradiction fun h'=>h ⟨by omega,.inr (by omega)⟩
    have h9:M%1000000=M:=Nat.mod_eq_of_lt (by omega);rw[h9]at hG;rw[h7,hq, ←hG,h8]
set_option maxRecDepth 100000 in
set_option maxHeartbeats 4000000 in
theorem rtext_any(v:Value)(n:Nat)(w:World)(hv:RefV w v n)(hl:(digs B6 n).length≤100000)(hd:(decDigits n).length≤10000000):
    Calls Tryz.prog 35 #[v] w fun e w'=>e=.returned (.string ⟨(decDigits n).toArray⟩)∧Below w.heap.size w w':=by
  obtain⟨p,cp,rfl,hpg⟩:=GV.slice hv;have HPG:=hid hpg
  by_cases h0:n=0
  · subst h0
    rw[digs_zero,dec_small (by omega)];clear hv hpg HPG hl hd;go_enter Tryz.func35,Tryz.ntmps35;go_wp2;go_ret;exact⟨rfl,Below.refl _ _⟩
  · have hpos :0<(digs B6 n).length:=List.length_pos_iff.2 fun e=>h0 ((digs_eq_nil b6_2).1 e)
    have hne:(((digs B6 n).length:Int)==0)=false:=by rw[beq_eq_false_iff_ne];omega
    have HAT:=hid (fun i h=>digs_at i n h);have HOV:=hid (fun i=>digs_over (i:=i) (n:=n));have HE:=hid (show decE n=decDigits n from if_neg h0);have HDL:=hid hd;obtain⟨xs,hxs⟩:∃xs,digs B6 n=xs:=⟨_,rfl⟩;rw[hxs]at HPG HAT hpos hl hne HOV⊢;clear hv hpg hxs h0 hd;go_enter Tryz.func35,Tryz.ntmps35;go_wp2_with fail;go_loopw [3,4] (fun sv i wr=> ∃(k:Nat) (s:ByteArray),k≤xs.length∧i=.int .i64 k∧sv=.string s∧RowKit.Hid (Wrote n (n/B6^k) s)∧Below w.heap.size w wr) (fun _ i _=>xs.length-(intOf i).toNat)
    case atStart=>exact⟨0,_,Nat.zero_le _,rfl,rfl,hid (by rw[Nat.pow_zero,Nat.div_one];unfold Wrote;simp),Below.refl _ _⟩
    case round=>
      obtain⟨i,s,hi,rfl,rfl,HW,hold⟩:=hrel;generalize wr=W1 at hold⊢
      by_cases hlt:i<xs.length
      · obtain⟨g,rfl,hg,_,_⟩:=HPG.out (fun e=>by subst e;simp at hlt)
        have hg1:=(hg.below hold).at0 i hlt;have hgl:=Nat.lt_of_lt_of_le hg.lt hold.size;rw[HAT.out i hlt]at hg1;unfold iCell at hg1;have hM:=(HOV.out i).2 hlt;have hM1:=HOV.out (i+1);rw[Nat.pow_succ, ←Nat.div_div_eq_div_mul,b6]at hM1;rw[b6]at hg1;have HNX:=hid (show n/B6^(i+1)=n/B6^i/1000000 by rw[Nat.pow_succ, ←Nat.div_div_eq_div_mul,b6]);obtain⟨M,hMM⟩:∃M,n/B6^i=M:=⟨_,rfl⟩;rw[b6]at HNX hMM HW;rw[hMM]at hg1 HNX HW;have hM':M≠0:=by rw[b6,hMM]at hM;exact hM
        have hM1':M/1000000≠0↔i+1<xs.length:=by rw[hMM]at hM1;exact hM1
        clear hM hM1 hMM;have hti:(i:Int)<(xs.length:Int):=by omega
        have hgm:0≤(M:Int)%1000000:=by omega
        go_upto_region 9 with(fail);go_loopw [3,5,6] (fun sv gv kv wr=> ∃(k G q:Nat) (s:ByteArray),k≤6∧kv=.int .i64 k∧gv=.int .i64 (G:Int)∧sv=.string s∧RowKit.Hid (G=M%1000000/10^k∧q=M/10^k)∧RowKit.Hid (Wrote n q s)∧Below w.heap.size w wr) (fun _ _ kv _=>6-(intOf kv).toNat)
        case atStart=>exact⟨0,M%1000000,M,s,by omega,rfl,rfl,rfl,hid (by simp),HW,hold⟩
        case round=>
          obtain⟨k,G,q,s2,hk6',rfl,rfl,rfl,HGQ,HW2,hold2⟩:=hrel;generalize wr=W2 at hold2⊢;obtain⟨hG,hq⟩:=HGQ.out;have hGb:G<1000000:=by rw[hG];exact Nat.lt_of_le_of_lt (Nat.div_le_self _ _) (by omega)
          by_cases hgo:k<6∧(i+1<xs.length∨0<G)
          · obtain⟨hk6,hgo2⟩:=hgo
            have hq0:q≠0:=by
              rw[hq];exact group_ne hk6 hG (hgo2.imp hM1'.2 id)
            by_cases hlast:i+1<xs.length
            · have hli:(i:Int)<(xs.length:Int)-1:=by omega
              have HS:=hid (HW2.out.step hq0);have hsz:=HW2.out.size (by rw[HE.out];exact HDL.out);have hGm:=group_mod M k hk6;rw[←hG, ←hq]at hGm;have HG2:=hid (show G/10=M%1000000/10^(k+1) by rw[hG,Nat.div_div_eq_div_mul,Nat.pow_succ]);have HQ2:=hid (show q/10=M/10^(k+1) by rw[hq,Nat.div_div_eq_div_mul,Nat.pow_succ]);rw[←hGm]at HS;obtain⟨c1,hc1⟩:∃c1,(⟨#[chr (G%10)]⟩:ByteArray)=c1:=⟨_,rfl⟩;rw[hc1]at HS;have hcv:=conv_one W2 (G%10) (by omega);rw[hc1]at hcv;have hc1s:c1.size=1:=by rw[←hc1];rfl
              have hsum:c1.size+s2.size≤9223372036854775807:=by omega
              have ecv:((G%10:Nat):Int)=(G:Int)%10:=rfl;rw[ecv]at hcv;have hk6i:(k:Int)<6:=by omega
              clear hGm hq hG hc1 ecv hc1s;go_wp2;go_roundw
              case rel=>exact⟨k+1,G/10,q/10,_,by omega,by go_num,rfl,rfl,hid ⟨HG2.out,HQ2.out⟩,HS,hold2.alloc hold2.size _⟩
              case measure=>simp[intOf];omega
            · have hli:¬(i:Int)<(xs.length:Int)-1:=by omega
              have hGi:(0:Int)<(G:Int):=by omega
              have HS:=hid (HW2.out.step hq0);have hsz:=HW2.out.size (by rw[HE.out];exact HDL.out);have hGm:=group_mod M k hk6;rw[←hG, ←hq]at hGm;have HG2:=hid (show G/10=M%1000000/10^(k+1) by rw[hG,Nat.div_div_eq_div_mul,Nat.pow_succ]);have HQ2:=hid (show q/10=M/10^(k+1) by rw[hq,Nat.div_div_eq_div_mul,Nat.pow_succ]);rw[←hGm]at HS;obtain⟨c1,hc1⟩:∃c1,(⟨#[chr (G%10)]⟩:ByteArray)=c1:=⟨_,rfl⟩;rw[hc1]at HS;have hcv:=conv_one W2 (G%10) (by omega);rw[hc1]at hcv;have hc1s:c1.size=1:=by rw[←hc1];rfl
              have hsum:c1.size+s2.size≤9223372036854775807:=by omega
              have ecv:((G%10:Nat):Int)=(G:Int)%10:=rfl;rw[ecv]at hcv;have hk6i:(k:Int)<6:=by omega
              clear hGm hq hG hc1 ecv hc1s;go_wp2;go_roundw
              case rel=>exact⟨k+1,G/10,q/10,_,by omega,by go_num,rfl,rfl,hid ⟨HG2.out,HQ2.out⟩,HS,hold2.alloc hold2.size _⟩
              case measure=>simp[intOf];omega
          · have hdone:Wrote n (M/1000000) s2:=by
              have h1:=HW2.out;have h2:=group_end hk6' hG hq (fun h=>hgo ⟨h.1,h.2.imp hM1'.1 id⟩)
              rwa [h2]at h1
            rw[←HNX.out]at hdone;have HD:=hid hdone
            by_cases hk6:k<6
            · have hli:¬(i:Int)<(xs.length:Int)-1:=fun h=>hgo ⟨hk6,.inl (by omega)⟩
              have hG0:G=0:=Decidable.byContradiction fun h=>hgo ⟨hk6,.inr (by omega)⟩
              have hk6i:(k:Int)<6:=by omega
              clear hG hq hdone hgo;subst hG0;go_wp2;go_roundw
              case rel=>exact⟨i+1,s2,by omega,by go_num,rfl,HD,hold2⟩
              case measure=>simp[intOf];omega
            · have hk6i:¬(k:Int)<6:=by omega
              clear hG hq hdone hgo;go_wp2;go_roundw
              case rel=>exact⟨i+1,s2,by omega,by go_num,rfl,HD,hold2⟩
              case measure=>simp[intOf];omega
      · obtain rfl:i=xs.length:=by omega
        have hz:n/B6^xs.length=0:=Decidable.byContradiction fun h=>absurd ((HOV.out _).1 h) (by omega)
        have hs:s=⟨(decDigits n).toArray⟩:=by
          have h1:=HW.out;rw[hz]at h1;unfold Wrote at h1;rw[HE.out]at h1;have:s.data.toList=decDigits n:=by rw[h1];simp[decE]
          rw[←this]
        have HS:=hid hs;clear hz hs;go_wp2;go_ret;exact⟨by rw[HS.out];rfl,hold⟩
end Go.Proofs.YtlhbcopaakejgaaGreatDoor
