/- Laws of linear programs with up to 4 variables and 5 rows: for every input the law's function returns true; no condition. Part 2 of 6. -/

import Derived.Test.YtjhaedfpigebdaaGreatDoorQA
import Derived.OwnWalk
import Derived.Laws.OwnMore
import Derived.Laws.AppendOwn
import Derived.Lib.SmallJoins
import Derived.Lib.ItoaLen
import Derived.Lib.ItoaMem
import Derived.Lib.Strings
import Derived.Laws.AppendOwnNone
import Derived.Laws.IdiomStrings
namespace Go.Proofs.YtjhaedfpigebdaaGreatDoor
open Go.RowKit
open Go.Lib (decDigits)
section
theorem row1_lt{W:World}{base n:Nat}{e:TypeId}{v:Value}{xs:List Value}(h:W.ownsRow base e 1 v n xs):∀k,v.ownBlock=some k->base<=k/\k<W.heap.size:=by
  intro k hk
  rcases h.2 with⟨rfl,_⟩|⟨g,cap,cur,rfl,hg,hb,_⟩
  . cases hk
  simp only[Value.ownBlock,Option.some.injEq]at hk;subst hk;exact⟨hg,(Array.getElem?_eq_some_iff.1 hb).1⟩
theorem row1_step{B base n:Nat}{e:TypeId}{W1 wr w1:World}{v:Value}{xs:List Value}{tmp:Obj}(hb:Below B W1 wr)(hrow:wr.ownsRow base e 1 v n xs)(hbase:B<=base)(hB:B<=wr.heap.size)(hgrow:(wr.alloc tmp).grownBy w1 v.ownBlock):Below B W1 w1:=
  (hb.alloc hB tmp).grown hgrow (by simp;omega) fun k hk=>Nat.le_trans hbase (row1_lt hrow k hk).1
theorem cells1_new(w:World)(u:Value)(t:TypeId):∀j x,[u][j]?=some x->(w.alloc (.cells #[u] t)).cell? ((⟨w.heap.size,0,none⟩:Addr).add j)=some x:=by
  intro j x hx
  match j,hx with
  | 0,hx=>
    simp only[List.getElem?_cons_zero,Option.some.injEq]at hx;subst hx;rw[add_at];exact cell_box1 (heap_new w _)
theorem row1_cell{W:World}{base n:Nat}{e:TypeId}{v:Value}{xs:List Value}(h:W.ownsRow base e 1 v n xs)(hn:n=xs.length){k:Nat}(hk:k<xs.length):∃g cap,v=.slice (some ⟨g,0,none⟩) n cap/\base<=g/\W.cell? ⟨g,k,none⟩=some xs[k]:=by
  rcases h.2 with⟨_,h0⟩|⟨g,cap,cur,rfl,hg,hb,hle,_,hs,ht⟩
  . omega
  refine⟨g,cap,rfl,hg,?_⟩;unfold World.cell?;rw[show W.heap[(⟨g,k,none⟩:Addr).block]?=_ from hb]
  have h1:cur.toList[k]?=some xs[k]:=by
    have:=congrArg (fun l=>l[k]?) ht;rw[List.getElem?_take_of_lt (by omega)]at this;rw[this];exact List.getElem?_eq_getElem hk
  rw[Array.getElem?_toList]at h1
  simpa using h1
def Tab(w:World):Prop:=Lib.TabIs Tryz.prog w "internal/strconv.uint64pow10" .u64 Lib.pow10Tab
theorem var_below{P:Program}{w w':World}{nm:String}{x:Array Value}(h:w.var? P nm=some x)(hb:Below w.heap.size w w'):w'.var? P nm=some x:=by
  unfold World.var? at h⊢
  cases hg:P.globalNamed nm with
  |none=>rw[hg]at h;cases h
  | some g=>
    rw[hg]at h;simp only[Option.bind_some]at h⊢
    cases hk:w.heap[g]? with
    |none=>rw[hk]at h;cases h
    |some o=>rw[hb.block g (Array.getElem?_eq_some_iff.1 hk).1];exact h
theorem Tab.below{w w':World}(h:Tab w)(hb:Below w.heap.size w w'):Tab w':=var_below h hb
theorem below_grow(w:World)(k:Nat)(os:Array Obj):Below w.heap.size w (Go.Sort.grow (w.drewN k) os):=
  ⟨rfl,rfl,rfl,by simp[Go.Sort.grow],fun i hi=>by simp only[Go.Sort.grow,World.heap_drewN];rw[Array.getElem?_append_left hi]⟩
theorem itoa_any(n:Nat)(w:World)(hn:n<=9223372036854775807)(ht:Tab w):
    Calls Tryz.prog 79 #[.int .i64 (n:Int)] w fun e w'=>e=.returned (.string ⟨(decDigits n).toArray⟩)/\Below w.heap.size w w':=
  (Tryz.strconv_Itoa (n:Int) (by omega) (by omega) w ht).mono fun e w' ⟨h1,k,os,h2⟩=>⟨by rw[h1,Lib.itoa_nonneg],by rw[h2];exact below_grow _ _ _⟩
theorem write_any(b:Nat)(l:List UInt8)(s:ByteArray)(w:World)(h:Lib.IsBuilder 140 5 b b (Lib.byteCells l) w)(hlen:l.length+s.size<=140737488355328):
    Calls Tryz.prog 81 #[.pointer (some ⟨b,0,none⟩),.string s] w fun e w'=> ∃r,e=.returned r/\Lib.IsBuilder 140 5 b b (Lib.byteCells (l++s.data.toList)) w'/\Below b w w':=by
  have hB:b<=w.heap.size:=by
    rcases h with h|h
    . exact Nat.le_of_lt h.lt
    exact Nat.le_of_lt h.lt
  refine(Any.Builder_WriteString (P:=Tryz.prog) (ρ:=Tryz.lays105_ren) {Tryz.lays105 with} Tryz.Builder_Extra_105 b b _ s w h (by rw[Lib.byteCells_length];exact hlen) hB).mono fun e w' ⟨h1,h2,h3⟩=>⟨_,h1,.inr ?_,h3⟩
  rw[Lib.byteCells_append];exact h2
def flat(ps:List ByteArray):List UInt8:=ps.flatMap fun s=>s.data.toList
theorem flat_append(a b:List ByteArray):flat (a++b)=flat a++flat b:=by unfold flat;rw[List.flatMap_append]
theorem flat_one(s:ByteArray):flat [s]=s.data.toList:=by simp[flat]
theorem flat_mk(l:List UInt8):flat [⟨l.toArray⟩]=l:=by simp[flat]
structure TextAt(w0:World)(m:Nat)(v:Value)(ps:List ByteArray)(wr:World):Prop where
  box:∃p c,wr.heap[w0.heap.size]?=some (.cells #[.slice p (digs B32 m).length c] 68)/\NatV wr (.agg #[.slice p (digs B32 m).length c]) m
  row:wr.ownsRow (w0.heap.size+1) 9 1 v ps.length (ps.map .string)
  nil:ps=[]->v=.slice none 0 0
  old:Below w0.heap.size w0 wr
  sz:w0.heap.size+1<=wr.heap.size
theorem TextAt.below{w0 wr w':World}{m:Nat}{v:Value}{ps:List ByteArray}(h:TextAt w0 m v ps wr)(hb:Below wr.heap.size wr w'):TextAt w0 m v ps w':=by
  obtain⟨⟨p,c,h1,h2⟩,h3,hn,h4,h5⟩:=h;exact⟨⟨p,c,(hb.block _ (by omega)).trans h1,h2.below hb⟩,row_kept_none h3 (grown_of_below hb),hn,h4.trans (hb.mono (by omega)),Nat.le_trans h5 hb.size⟩
theorem TextAt.store{w0 wr:World}{m m':Nat}{v:Value}{ps:List ByteArray}{p:Option Addr}{c:Nat}(h:TextAt w0 m v ps wr)(hn:NatV wr (.agg #[.slice p (digs B32 m').length c]) m'):TextAt w0 m' v ps (wr.setCell ⟨w0.heap.size,0,none⟩ (.slice p (digs B32 m').length c)):=by
  obtain⟨⟨p0,c0,h1,h2⟩,h3,hnil,h4,h5⟩:=h;refine⟨⟨p,c,box_store h1 _,hn.store (cell_box1 h1) _⟩,⟨h3.1,?_⟩,hnil,h4.setCell (p:=⟨w0.heap.size,0,none⟩) (Nat.le_refl _) _,by simpa[World.setCell]using h5⟩;refine h3.2.imp id fun⟨g,cap,cur,e1,e2,e3,e4⟩=>⟨g,cap,cur,e1,e2,?_,e4⟩
  rw[setCell_far _ (by omega)];exact e3
theorem NatV.grown{w w':World}{row:Option Nat}{v:Value}{n:Nat}(h:NatV w v n)(hg:w.grownBy w' row)(hr:∀k,row=some k-> ∀x:Nat,w.cell? ⟨k,0,none⟩≠some (.int .u32 (x:Int))):NatV w' v n:=by
  refine h.imp id fun⟨h0,g,c2,e,t,hc⟩=>⟨h0,g,c2,e,⟨Nat.lt_of_lt_of_le t.lt hg.size,fun k hk=>?_⟩,hc⟩
  have hne:some g≠row:=fun e=>hr g e.symm _ (t.at0 0 (by omega))
  rw[<-t.at0 k hk];exact World.cell?_of_block (a:=⟨g,k,none⟩) (hg.block g t.lt hne)
theorem TextAt.push{w0 wr w':World}{m:Nat}{v v':Value}{ps:List ByteArray}{tmp:Obj}{s:ByteArray}(h:TextAt w0 m v ps wr)(hown:w'.ownsRow (w0.heap.size+1) 9 1 v' (ps.length+1) (ps.map .string++[.string s]))(hg:(wr.alloc tmp).grownBy w' v.ownBlock):TextAt w0 m v' (ps++[s]) w':=by
  obtain⟨⟨p,c,h1,h2⟩,h3,hn,h4,h5⟩:=h;have hb:Below (w0.heap.size+1) wr w':=row1_step (Below.refl _ wr) h3 (Nat.le_refl _) h5 hg;refine⟨⟨p,c,(hb.block _ (by omega)).trans h1,?_⟩,by simpa using hown,by simp,h4.trans (hb.mono (by omega)),Nat.le_trans h5 hb.size⟩;refine(h2.below ((Below.refl _ wr).alloc (Nat.le_refl _) tmp)).grown hg fun k hk x hx=>?_
  by_cases hps:ps=[]
  . rw[hn hps]at hk;cases hk
  have hpos:0<(ps.map Value.string).length:=by rw[List.length_map];exact List.length_pos_iff.2 hps
  obtain⟨g,cap,rfl,hgb,hc⟩:=row1_cell h3 (by simp) hpos;simp only[Value.ownBlock,Option.some.injEq]at hk;subst hk;have hlt:=row1_lt h3 g rfl;rw[((Below.refl wr.heap.size wr).alloc (Nat.le_refl _) tmp).cell (p:=⟨g,0,none⟩) hlt.2,hc]at hx;simp only[List.getElem_map,Option.some.injEq]at hx
  cases hx
def sliceLen:Value->Nat
  | .slice _ n _=>n
  |_=>0
theorem row_sliceLen{W:World}{base n:Nat}{e:TypeId}{v:Value}{xs:List Value}(h:W.ownsRow base e 1 v n xs):sliceLen v=n:=by
  rcases h.2 with⟨rfl,h0⟩|⟨g,cap,cur,rfl,_⟩
  . rw[h0];rfl
  rfl
def base9:Nat:=1000000000
def groups(n k m:Nat)(ps:List ByteArray):Prop:=m=n/base9^k/\decDigits n=(if m=0 then[]else decDigits m)++flat ps.reverse
theorem groups_step{n k m:Nat}{ps:List ByteArray}(h:groups n k m ps)(hm:m≠0)(s:List UInt8)(hs:s=if m/base9=0 then decDigits (m%base9)else padk 9 (m%base9)):groups n (k+1) (m/base9) (ps++[⟨s.toArray⟩]):=by
  obtain⟨h1,h2⟩:=h;refine⟨by rw[h1,Nat.pow_succ,Nat.div_div_eq_div_mul],?_⟩;rw[h2,if_neg hm,List.reverse_append,flat_append,List.reverse_singleton,flat_mk, <-List.append_assoc]
  congr 1
  rw[hs]
  by_cases h0:m/base9=0
  . rw[if_pos h0,if_pos h0,List.nil_append,Nat.mod_eq_of_lt]
    exact Nat.lt_of_not_le fun hle=>by
      have:=Nat.div_pos hle (by decide:0<base9);omega
  rw[if_neg h0,if_neg h0];exact dec_split 9 m h0
theorem groups_bound{n k m:Nat}{ps:List ByteArray}(h:groups n k m ps)(hm:m≠0){L:Nat}(hL:n<B32^L):k<2*L:=by
  refine Nat.lt_of_not_le fun hle=>hm ?_
  rw[h.1];refine Nat.div_eq_of_lt (Nat.lt_of_lt_of_le hL ?_);have h1:B32^L<=(base9^2)^L:=Nat.pow_le_pow_left (by decide) L;have h2:(base9^2)^L=base9^(2*L):=(Nat.pow_mul base9 2 L).symm;exact Nat.le_trans h1 (h2▸Nat.pow_le_pow_right (by decide) hle)
theorem dec_len{n L:Nat}(hL:n<B32^L):(decDigits n).length<=18*L+1:=by
  refine(pad_eq (18*L+1) n (by omega) (Nat.lt_of_lt_of_le hL ?_)).1;have h1:B32^L<=(10^18)^L:=Nat.pow_le_pow_left (by decide) L;have h2:(10^18)^L=10^(18*L):=(Nat.pow_mul 10 18 L).symm;exact Nat.le_trans h1 (h2▸Nat.pow_le_pow_right (by decide) (by omega))
theorem pad_string(r:Nat)(hr:r<base9):(⟨(Lib.repeatL [48] (9-(decDigits r).length)).toArray⟩:ByteArray)++⟨(decDigits r).toArray⟩=⟨(padk 9 r).toArray⟩:=by
  rw[repeat_zero,(pad_eq 9 r (by omega) hr).2,ByteArray.mk_append_mk]
theorem repeat_any(c:Nat)(w:World)(hc:c<=1000):
    Calls Tryz.prog 80 #[.string ⟨#[48]⟩,.int .i64 (c:Int)] w fun e w'=>e=.returned (.string ⟨(Lib.repeatL [48] c).toArray⟩)/\Below w.heap.size w w':=
  Tryz.strings_Repeat ⟨#[48]⟩ c w (by omega) (by
    have:(⟨#[48]⟩:ByteArray).size=1:=rfl;rw[this];omega)
theorem builder_new(w:World):Lib.IsBuilder 140 5 w.heap.size w.heap.size (Lib.byteCells []) (w.alloc (.cells #[.pointer none,.slice none 0 0] 140)):=
  .inl ⟨Nat.le_refl _,.slice none 0 0,heap_new w _,⟨rfl,.inl ⟨rfl,rfl⟩⟩,by simp[Value.ownBlock]⟩
theorem flat_take(ps:List ByteArray)(k:Nat):(flat (ps.take k)).length<=(flat ps).length:=by
  have:flat ps=flat (ps.take k)++flat (ps.drop k):=by rw[<-flat_append,List.take_append_drop]
  rw[this,List.length_append];omega
theorem infoS:(Tryz.prog.info? 9).map (fun i=>(i.zero,i.size,i.bytes))=some (some (.string ⟨#[]⟩),1,16):=by kernel_rfl
theorem one_str(s:ByteArray):∀u∈[Value.string s],u.oneCell'=true:=by
  intro u hu;simp only[List.mem_cons,List.not_mem_nil,or_false]at hu;rw[hu];rfl
theorem row_slice{W:World}{base n:Nat}{e:TypeId}{v:Value}{xs:List Value}(h:W.ownsRow base e 1 v n xs):∃p c,v=.slice p n c:=by
  rcases h.2 with⟨rfl,h0⟩|⟨g,cap,cur,rfl,_⟩
  . exact⟨none,0,by rw[h0]⟩
  exact⟨_,_,rfl⟩
theorem repeat48_size(k:Nat):(⟨(Lib.repeatL [48] k).toArray⟩:ByteArray).size=k:=by
  show(Lib.repeatL [48] k).toArray.size=k
  rw[List.size_toArray,repeat_zero,List.length_replicate]
theorem take_rev{α:Type}{l:List α}{k:Nat}(h:k<l.length):l.reverse.take (k+1)=l.reverse.take k++[l[l.length-1-k]]:=by
  rw[List.take_succ_eq_append_getElem (by simpa using h),List.getElem_reverse]
theorem row_kept_low{w w':World}{base n:Nat}{e:TypeId}{v:Value}{xs:List Value}(h:w.ownsRow base e 1 v n xs)(hb:Below w.heap.size w w'):w'.ownsRow base e 1 v n xs:=row_kept_none h (grown_of_below hb)
set_option maxRecDepth 100000 in
set_option maxHeartbeats 4000000 in
theorem text_any(v:Value)(n:Nat)(w:World)(hv:NatV w v n)(ht:Tab w)(hl:(digs B32 n).length<=100000):
    Calls Tryz.prog 54 #[v] w fun e w'=>e=.returned (.string ⟨(decDigits n).toArray⟩)/\Below w.heap.size w w':=by
  obtain⟨i0,hi,hz0,hz1,hz2⟩:=info_parts infoS;have HB:=hid (show n<B32^(digs B32 n).length by have:=val_lt b32_2 (digs_lt b32_2 n);rwa [val_digs b32_2]at this)
  by_cases h0:n=0
  . subst h0;have HZ:=hid (fun w1 (hb:Below w.heap.size w w1)=>isZero_any v 0 w1 (hv.below hb));obtain⟨P,c,rfl,hp⟩:=hv.digp;rw[digs_zero,List.length_nil]at HZ⊢;rw[dec_small (by omega)];clear hp hv HB hl;go_enter Tryz.func54,Tryz.ntmps54;go_upto_region 1 with(fail);obtain⟨W1,hW1,hsz,kA,hWb⟩:=box1_head (.slice P 0 c) 68 w;rw[<-hW1];have b1:w.heap.size<W1.heap.size:=by omega
    clear hW1 hsz;have a0:=cell_box1 kA;have HZ1:=hid (HZ.out W1 hWb);clear HZ;go_wp2_with (go_at_call 55;refine HZ1.out.mono ?_;clear HZ1;rintro e w2 ⟨rfl,hw2⟩);go_ret;exact⟨rfl,hWb.trans (hw2.mono (by omega))⟩
  have HZ:=hid (fun w1 (hb:Below w.heap.size w w1)=>isZero_any v n w1 (hv.below hb));obtain⟨P,c,rfl,hp⟩:=hv.digp;have HV:=hid hv;rw[show(n==0)=false by simpa using h0]at HZ;have H0:=hid h0;clear hp hv h0;go_enter Tryz.func54,Tryz.ntmps54;go_upto_region 1 with(fail);obtain⟨W1,hW1,hsz,kA,hWb⟩:=box1_head (.slice P (digs B32 n).length c) 68 w;rw[<-hW1];have b1:w.heap.size<W1.heap.size:=by omega
  clear hW1 hsz;have a0:=cell_box1 kA;have HZ1:=hid (HZ.out W1 hWb);clear HZ;go_upto_region 4 with(go_at_call 55;refine HZ1.out.mono ?_;clear HZ1;rintro e w2 ⟨rfl,hw2⟩);have hat0:TextAt w n (.slice none 0 0) [] w2:=⟨⟨P,c,(hw2.block _ b1).trans kA,HV.out.below (hWb.trans (hw2.mono hWb.size))⟩,⟨rfl,.inl ⟨rfl,rfl⟩⟩,fun _=>rfl,hWb.trans (hw2.mono hWb.size),Nat.le_trans b1 hw2.size⟩;have HG0:=hid (show groups n 0 n []from⟨by simp,by rw[if_neg H0.out];simp[flat]⟩);clear a0 hWb kA hw2 HV;go_loopw [3] (fun v wr=> ∃(m:Nat) (ps:List ByteArray),TextAt w m v ps wr/\Hid (groups n ps.length m ps)/\ps.length<=2*(digs B32 n).length) (fun v _=>2*(digs B32 n).length-sliceLen v)
  case atStart=>exact⟨n,[],hat0,HG0,Nat.zero_le _⟩
  clear hat0 HG0;obtain⟨m,ps,hat,HG,hpl2⟩:=hrel;obtain⟨p,cp,hbox,hnat⟩:=hat.box;have c0:=cell_box1 hbox
  by_cases hm:m=0
  . subst hm;obtain⟨hgm,hgt⟩:=HG.out;rw[if_pos rfl,List.nil_append]at hgt;have HT:=hid hgt;have htl:(flat ps.reverse).length<=18*(digs B32 n).length+1:=by rw[<-hgt];exact dec_len HB.out
    have hpl:ps.length<=1000000:=by omega
    clear hgm hgt;go_upto_region 11 with(go_at_call 55;refine(isZero_any _ _ _ hnat).mono ?_;rintro e w2 ⟨rfl,hw2⟩);have hat2:=hat.below hw2;clear hat hw2 hbox hnat c0 HG
    obtain⟨W2,hW2,hB2,hb2,hs2⟩:∃W2,W2=w2.alloc (.cells #[.pointer none,.slice none 0 0] 140)/\Lib.IsBuilder 140 5 w2.heap.size w2.heap.size (Lib.byteCells []) W2/\Below w2.heap.size w2 W2/\w2.heap.size<W2.heap.size:=
      ⟨_,rfl,builder_new w2,(Below.refl _ w2).alloc (Nat.le_refl _) _,by simp⟩
    have hold2:=hat2.old;have hsz2:=hat2.sz;have hrow2:=hat2.row;obtain⟨pp,cpp,rfl⟩:=row_slice hrow2;go_upto_region 12 with(fail);rw[<-hW2];clear hW2 hat2;go_wp2;go_loopw [36] (fun i wr=> ∃k:Nat,k<=ps.length/\i=.int .i64 k/\Lib.IsBuilder 140 5 w2.heap.size w2.heap.size (Lib.byteCells (flat (ps.reverse.take k))) wr/\Below w2.heap.size w2 wr) (fun i _=>ps.length-(intOf i).toNat)
    case atStart=>exact⟨0,Nat.zero_le _,rfl,by simpa[flat]using hB2,hb2⟩
    obtain⟨k,hk,rfl,hBk,hbk⟩:=hrel;clear hB2 hb2;have hrk:=row_kept_low hrow2 hbk
    by_cases hlt:k<ps.length
    . have hj:ps.length-1-k<ps.length:=by omega
      obtain⟨gp,cg,e0,hgb,hcell⟩:=row1_cell hrk (by simp) (k:=ps.length-1-k) (by simpa using hj)
      injection e0 with e1 e2 e3
      subst e3;subst e1;have ei:(ps.length:Int)-1-(k:Int)=((ps.length-1-k:Nat):Int):=by omega
      have hft:=flat_take ps.reverse (k+1);rw[take_rev hlt,flat_append,flat_one]at hft;have HE:=hid (show flat (ps.reverse.take k)++ps[ps.length-1-k].data.toList=flat (ps.reverse.take (k+1)) by rw[take_rev hlt,flat_append,flat_one]);rw[List.getElem_map]at hcell;obtain⟨sk,hsk⟩:∃sk,ps[ps.length-1-k]=sk:=⟨_,rfl⟩;rw[hsk]at hft HE hcell
      have hlw:(flat (ps.reverse.take k)).length+sk.size<=140737488355328:=by
        rw[List.length_append]at hft;have e:sk.data.toList.length=sk.size:=by rw[Array.length_toList];rfl
        omega
      have HW:=hid (write_any w2.heap.size _ sk wr hBk hlw);rw[HE.out]at HW;have q0:(ps.length:Int)-1-(k:Int)<(ps.length:Int):=by omega
      clear hft hlw hsk;go_wp2_with (go_at_call 81;refine HW.out.mono ?_;clear HW;rintro e w5 ⟨rr,rfl,hB5,hb5⟩);go_roundw
      case rel=>exact⟨k+1,by omega,by go_num,hB5,hbk.trans hb5⟩
      case measure=>simp[intOf];omega
    obtain rfl:k=ps.length:=by omega
    rw[List.take_of_length_le (by simp), <-HT.out]at hBk;have HS:=hid (Tryz.Builder_String_any w2.heap.size w2.heap.size _ wr hBk hbk.size);go_wp2_with (go_at_call 82;refine HS.out.mono ?_;clear HS;rintro e w5 ⟨rfl,hb5⟩);go_ret;exact⟨rfl,hold2.trans ((hbk.trans hb5).mono (by omega))⟩
  have HM:=hid (show(m==0)=false by simpa using hm);have HK:=hid (groups_bound HG.out hm HB.out);have HGS:=hid (groups_step HG.out hm);have hsl:=row_sliceLen hat.row;have hlm:(digs B32 m).length<=1000000:=Nat.le_trans (digs_mono (by rw[HG.out.1];exact Nat.div_le_self _ _)) (by omega);have hr9:m%base9<base9:=Nat.mod_lt _ (by decide);have HD:=fun w1 (h:NatV w1 (.agg #[.slice p (digs B32 m).length cp]) m)=>divs_any _ m base9 w1 h hlm (by decide) (by decide)
  obtain⟨r,hr⟩:∃r,m%base9=r:=⟨_,rfl⟩;rw[hr]at HD HGS hr9;have HRP:=hid (pad_string r hr9);have hln:=(pad_eq 9 r (by omega) hr9).1;have hri:(r:Int)<1000000000:=by have:base9=1000000000:=rfl;omega
  replace HD:=hid HD;have HI:=hid (fun w1 ht=>itoa_any r w1 (by omega) ht);have HRR:=hid (fun w1=>repeat_any (9-(decDigits r).length) w1 (by omega));obtain⟨sr,hsr⟩:∃sr:ByteArray,(⟨(decDigits r).toArray⟩:ByteArray)=sr:=⟨_,rfl⟩;have hsz:sr.size=(decDigits r).length:=by rw[<-hsr];simp[ByteArray.size]
  rw[hsr]at HI HRP;rw[<-hsz]at HRR HRP hln;have hcnt:((9-sr.size:Nat):Int)=9-(sr.size:Int):=by omega
  rw[hcnt]at HRR;obtain⟨zr,hzr⟩:∃zr:ByteArray,(⟨(Lib.repeatL [48] (9-sr.size)).toArray⟩:ByteArray)=zr:=⟨_,rfl⟩;have hzs:zr.size=9-sr.size:=by rw[<-hzr,repeat48_size]
  rw[hzr]at HRR HRP;have HSR:=hid hsr;have hzs2:zr.size+sr.size<=9223372036854775807:=by omega
  have hzs3:zr.size<=9:=by omega
  clear hm hr hcnt hr9 hsz hsr hzr hzs;go_upto_region 6 with(go_at_call 55;refine(isZero_any _ _ _ hnat).mono ?_;rw[HM.out];rintro e w2 ⟨rfl,hw2⟩);replace hnat:=hnat.below hw2;replace hat:=hat.below hw2;replace hbox:=(hw2.block _ (Array.getElem?_eq_some_iff.1 hbox).1).trans hbox;replace c0:=cell_box1 hbox;clear hw2;go_upto_region 7 with(go_at_call 78;refine(HD.out _ hnat).mono ?_;clear HD;rintro e w3 ⟨x,rfl,hx,hw3⟩;obtain⟨q,cq,rfl,_⟩:=hx.dig;have hat3:=hat.below hw3;obtain⟨_,_,hb3,_⟩:=hat3.box;have f3:=free_box1 hb3;have c3:=cell_box1 hb3);replace hat3:=hat3.store hx;obtain⟨W3,hW3⟩:∃W3,W3=w3.setCell ⟨w.heap.size,0,none⟩ (.slice q (digs B32 (m/base9)).length cq):=⟨_,rfl⟩;rw[<-hW3]at hat3⊢;clear hW3 hat hnat hbox hb3 hx hw3 f3 c3 c0;have htab3:=ht.below (hat3.old.mono (Nat.le_refl _));go_upto_region 8 with(go_at_call 79;refine(HI.out _ htab3).mono ?_;clear HI;rintro e w4 ⟨rfl,hw4⟩);have hat4:=hat3.below hw4;clear hat3 hw4 htab3;obtain⟨p4,c4,hbox4,hnat4⟩:=hat4.box;have cc4:=cell_box1 hbox4
  by_cases hz:m/base9=0
  . rw[if_pos hz]at HGS;rw[hz]at hbox4 hnat4 hat4 HGS cc4;have HG':=hid (HGS.out _ rfl);rw[HSR.out]at HG';clear HGS hz;go_upto_region 10 with(go_at_call 55;refine(isZero_any _ _ _ hnat4).mono ?_;rintro e w5 ⟨rfl,hw5⟩);have hat5:=hat4.below hw5;have hkk:=HK.out;go_wp2_with (at_builtin;refine wpList_append_own _ rfl _ _ 131 rfl (w.heap.size+1) 9 i0 _ 1 16 Tryz.underlying131 hi hz0 hz1 hz2 rfl (by decide) _ _ _ rfl (hat5.row.alloc _) ⟨w5.heap.size,0,none⟩ 1 1 [.string sr] rfl rfl (cells1_new w5 _ _) (one_str _) (by simp[maxLen];omega) (by omega) (by have:=hat5.sz;simp;omega) ?_;intro v' w7 hown' hgrow _;have hat7:=hat5.push hown' hgrow);have hsl7:=row_sliceLen hat7.row;rw[List.length_append]at hsl7;go_roundw
    case rel=>exact⟨_,_,hat7,hid (by rw[List.length_append];exact HG'.out),by rw[List.length_append,List.length_singleton];exact HK.out⟩
    case measure=>
      have:=HK.out
      show 2*_-sliceLen v'<2*_-sliceLen _
      rw[hsl,hsl7];simp only[List.length_singleton];omega
  have hzb:(m/base9==0)=false:=by simpa using hz
  rw[if_neg hz]at HGS;have HG':=hid (HGS.out _ rfl);rw[<-HRP.out]at HG';clear HGS hz;go_upto_region 9 with(go_at_call 55;refine(isZero_any _ _ _ hnat4).mono ?_;rw[hzb];rintro e w5 ⟨rfl,hw5⟩);have hat5:=hat4.below hw5;clear hzb hbox4 hnat4 hat4 cc4;go_upto_region 10 with(go_at_call 80;refine(HRR.out _).mono ?_;clear HRR;rintro e w6 ⟨rfl,hw6⟩);have hat6:=hat5.below hw6;have hkk:=HK.out;go_wp2_with (at_builtin;refine wpList_append_own _ rfl _ _ 131 rfl (w.heap.size+1) 9 i0 _ 1 16 Tryz.underlying131 hi hz0 hz1 hz2 rfl (by decide) _ _ _ rfl (hat6.row.alloc _) ⟨w6.heap.size,0,none⟩ 1 1 [.string _] rfl rfl (cells1_new w6 _ _) (one_str _) (by simp[maxLen];omega) (by omega) (by have:=hat6.sz;simp;omega) ?_;intro v' w7 hown' hgrow _;have hat7:=hat6.push hown' hgrow);have hsl7:=row_sliceLen hat7.row;rw[List.length_append]at hsl7;go_roundw
  case rel=>exact⟨_,_,hat7,hid (by rw[List.length_append];exact HG'.out),by rw[List.length_append,List.length_singleton];exact HK.out⟩
  case measure=>
    have:=HK.out
    show 2*_-sliceLen v'<2*_-sliceLen _
    rw[hsl,hsl7];simp only[List.length_singleton];omega
theorem row1_set{W:World}{base n:Nat}{e:TypeId}{g cap:Nat}{xs:List Value}(h:W.ownsRow base e 1 (.slice (some ⟨g,0,none⟩) n cap) n xs)(k:Nat)(u:Value)(_hk:k<n):
    (W.setCell ⟨g,k,none⟩ u).ownsRow base e 1 (.slice (some ⟨g,0,none⟩) n cap) n (xs.set k u):=by
  refine⟨by rw[List.length_set];exact h.1,.inr ?_⟩
  rcases h.2 with⟨e0,_⟩|⟨g',cap',cur,e0,hg,hb,hle,hm,hs,ht⟩
  . cases e0
  injection e0 with e1 _ e3
  injection e1 with e1
  injection e1 with e1
  subst e1 e3;refine⟨g,cap,cur.setIfInBounds k u,rfl,hg,heap_setCell_at hb u,hle,hm,by rw[Array.size_setIfInBounds];exact hs,?_⟩;rw[<-ht,Array.toList_setIfInBounds,List.take_set]
theorem row1_free{W:World}{base n:Nat}{e:TypeId}{g cap:Nat}{xs:List Value}(h:W.ownsRow base e 1 (.slice (some ⟨g,0,none⟩) n cap) n xs):∀o,W.frozen? ⟨g,o,none⟩=false:=by
  rcases h.2 with⟨e0,_⟩|⟨g',cap',cur,e0,hg,hb,_⟩
  . cases e0
  injection e0 with e1 _ e3
  injection e1 with e1
  injection e1 with e1
  subst e1;intro o;unfold World.frozen?;rw[show W.heap[(⟨g,o,none⟩:Addr).block]?=_ from hb];simp
def RowU(W:World)(base:Nat)(v:Value)(ds:List Nat):Prop:=W.ownsRow base 132 1 v ds.length (ds.map uCell)
theorem RowU.digv{W:World}{base:Nat}{v:Value}{ds:List Nat}(h:RowU W base v ds):DigV W v ds:=by
  by_cases hn:ds=[]
  . subst hn;obtain⟨p,c,e⟩:=row_slice h;exact .inl ⟨rfl,p,c,e⟩
  rcases h.2 with⟨_,h0⟩|⟨g,cap,cur,rfl,hg,hb,hle,hm,hs,ht⟩
  . exact absurd (List.eq_nil_of_length_eq_zero h0) hn
  refine .inr ⟨g,cap,rfl,⟨(Array.getElem?_eq_some_iff.1 hb).1,fun k hk=>?_⟩,hle,hm⟩;obtain⟨g',cap',e0,_,hc⟩:=row1_cell h (by simp) (k:=k) (by simpa using hk)
  injection e0 with e1
  injection e1 with e1
  injection e1 with e1
  subst e1;rw[hc,List.getElem_map];rfl
theorem one_u(c:Nat):∀u∈[uCell c],u.oneCell'=true:=by
  intro u hu;simp only[List.mem_cons,List.not_mem_nil,or_false]at hu;rw[hu];rfl
structure ExtAt(W0:World)(base:Nat)(p:Option Addr)(cap:Nat)(ds:List Nat)(f c0 k c:Nat)(wr:World):Prop where
  row:∃xs:List Nat,wr.ownsRow base 132 1 (.slice p ds.length cap) ds.length (xs.map uCell)/\xs.length=ds.length/\(∀x∈xs,x<B32)/\xs.drop k=ds.drop k/\val B32 (xs.take k)+B32^k*c=val B32 (ds.take k)*f+c0
  old:Below base W0 wr
  cb:c<1000000000
theorem ext_bound{c d f:Nat}(hc:c<1000000000)(hd:d<=4294967295)(hf:f<=1000000000):c+d*f<4294967296000000000:=by
  have:d*f<=4294967295*1000000000:=Nat.mul_le_mul hd hf;omega
theorem ExtAt.step{W0 wr:World}{base g cap:Nat}{ds:List Nat}{f c0 k c d:Nat}(h:ExtAt W0 base (some ⟨g,0,none⟩) cap ds f c0 k c wr)(hg:base<=g)(hk:k<ds.length)(hd:ds[k]=d)(hd1:d<=4294967295)(hf:f<=1000000000):
    ExtAt W0 base (some ⟨g,0,none⟩) cap ds f c0 (k+1) ((c+d*f)/4294967296) (wr.setCell ⟨g,k,none⟩ (.int .u32 (((c+d*f)%4294967296:Nat):Int))):=by
  have hcb:=h.cb;obtain⟨⟨xs,h1,h2,h3,h4,h5⟩,h6,_⟩:=h;have hb:=ext_bound hcb hd1 hf;have hlt:k<xs.length:=by omega
  refine⟨⟨xs.set k ((c+d*f)%4294967296),?_,by simpa using h2,all_set h3 (by rw[b32];omega),?_,?_⟩,h6.setCell (p:=⟨g,k,none⟩) hg _,by omega⟩
  . rw[List.map_set];exact row1_set h1 k _ hk
  . rw[List.drop_set_of_lt (by omega)];rw[List.drop_eq_getElem_cons hlt,List.drop_eq_getElem_cons hk]at h4;exact(List.cons.inj h4).2
  rw[val_take_set hlt,val_take_succ hk,hd,Nat.pow_succ,Nat.add_mul,Nat.mul_assoc (B32^k) B32];generalize B32^k=p at*
  have e2:p*((c+d*f)%4294967296)+p*(B32*((c+d*f)/4294967296))=p*c+p*d*f:=by
    rw[<-Nat.mul_add,b32,Nat.mod_add_div,Nat.mul_add,Nat.mul_assoc]
  omega
set_option maxRecDepth 100000 in
set_option maxHeartbeats 2000000 in
theorem extend_any(v:Value)(ds:List Nat)(f c0 base:Nat)(w:World)(h:RowU w base v ds)(hlt:∀d∈ds,d<B32)(hl:ds.length<=100000)(hf:f<=1000000000)(hc:c0<1000000000)(hbw:base<=w.heap.size):
    Calls Tryz.prog 131 #[v,.int .u64 (f:Int),.int .u64 (c0:Int)] w fun e w'=> ∃v' es,e=.returned v'/\RowU w' base v' es/\(∀d∈es,d<B32)/\val B32 es=val B32 ds*f+c0/\es.length<=ds.length+1/\Below base w w':=by
  obtain⟨i0,hi,hz0,hz1,hz2⟩:=info_parts infoU;obtain⟨p,cap,rfl⟩:=row_slice h;have HL:=hid hlt;have hat0:ExtAt w base p cap ds f c0 0 c0 w:=⟨⟨ds,h,rfl,hlt,rfl,by simp[val]⟩,Below.refl _ _,hc⟩;clear hlt h;go_enter Tryz.func131,Tryz.ntmps131;go_wp2;go_loopw [2,10] (fun cy i wr=> ∃k c:Nat,k<=ds.length/\i=.int .i64 k/\cy=.int .u64 (c:Int)/\ExtAt w base p cap ds f c0 k c wr) (fun _ i _=>ds.length-(intOf i).toNat)
  case atStart=>exact⟨0,c0,Nat.zero_le _,rfl,rfl,hat0⟩
  clear hat0;obtain⟨k,c,hk,rfl,rfl,hat⟩:=hrel;have hcb:=hat.cb
  by_cases hlt:k<ds.length
  . obtain⟨xs,hrow,hxl,hxb,hdr,_⟩:=hat.row;have hkx:k<xs.length:=by omega
    obtain⟨g,cg,e0,hgb,hcell⟩:=row1_cell hrow (by simp[hxl]) (k:=k) (by simpa using hkx)
    injection e0 with e1 _ e3
    subst e1 e3;have hfr:=row1_free hrow;have hd1:ds[k]<=4294967295:=by have:=HL.out _ (List.getElem_mem hlt);rw[b32]at this;omega
    have hxd:xs[k]=ds[k]:=by
      rw[List.drop_eq_getElem_cons hkx,List.drop_eq_getElem_cons hlt]at hdr;exact(List.cons.inj hdr).1
    rw[List.getElem_map,hxd]at hcell;obtain⟨d,hd⟩:∃d,ds[k]=d:=⟨_,rfl⟩;have HS:=hid (hat.step hgb hlt hd (by omega) hf);rw[hd]at hcell hd1;unfold uCell at hcell;have hmb:=ext_bound hcb hd1 hf;have hmb0:0<=(d:Int)*(f:Int):=Int.mul_nonneg (by omega) (by omega)
    have hmb2:(d:Int)*(f:Int)<=18446744073709551615:=by
      have e1:((d*f:Nat):Int)=(d:Int)*(f:Int):=Int.natCast_mul d f;omega
    obtain⟨t,ht,ht2⟩:∃t:Nat,c+d*f=t/\(c:Int)+(d:Int)*(f:Int)=(t:Int):=⟨_,rfl,by simp only[Int.natCast_add,Int.natCast_mul]⟩;rw[ht]at HS hmb;have hmb1:(c:Int)+(d:Int)*(f:Int)<=18446744073709551615:=by omega
    clear hd hat hxd hdr ht;go_upto_region 5 with(fail);clear ht2 hmb0 hmb1 hmb2;go_wp2;go_roundw
    case rel=>exact⟨k+1,t/4294967296,by omega,by go_num,rfl,HS.out⟩
    case measure=>simp[intOf];omega
  obtain rfl:k=ds.length:=by omega
  obtain⟨xs,hrow,hxl,hxb,_,hxv⟩:=hat.row;rw[<-hxl,List.take_length,hxl,List.take_length]at hxv;have hold:=hat.old
  by_cases hc0:c=0
  . subst hc0;go_wp2;go_ret;refine⟨_,xs,rfl,by unfold RowU;rw[hxl];exact hrow,hxb,by omega,by omega,hold⟩
  have hgt:(0:Int)<(c:Int):=by omega
  have hcm:(c:Int)%4294967296=(c:Int):=by omega
  have HV:=hid hxv;clear hxv hat;go_wp2_with (at_builtin;refine wpList_append_own _ rfl _ _ 66 rfl base 132 i0 _ 1 4 Tryz.underlying66 hi hz0 hz1 hz2 rfl (by decide) _ _ _ rfl (hrow.alloc _) ⟨wr.heap.size,0,none⟩ 1 1 [uCell c] rfl rfl (cells1_new wr _ _) (one_u _) (by simp[maxLen];omega) (by omega) (by have:=hold.size;simp;omega) ?_;intro v' w7 hown' hgrow _;have hb7:=row1_step hold hrow (Nat.le_refl _) (Nat.le_trans hbw hold.size) hgrow);go_ret;refine⟨_,xs++[c],rfl,?_,?_,?_,by simp;omega,hb7⟩
  . unfold RowU;rw[List.length_append,List.length_singleton,hxl,List.map_append];exact hown'
  . intro x hx
    rcases List.mem_append.1 hx with h1|h1
    . exact hxb x h1
    simp only[List.mem_cons,List.not_mem_nil,or_false]at h1;rw[h1,b32];omega
  rw[val_snoc,hxl];exact HV.out
def parseErr(l:List UInt8):Int:=if l=[]\/(1<l.length/\l.head?=some 48)\/(∃c∈l,isDig c=false)then 3 else if 1000<l.length then 6 else 0
def parseVal(l:List UInt8):Nat:=if parseErr l=0 then valT l else 0
theorem parse_syn{l:List UInt8}(h:l=[]\/(1<l.length/\l.head?=some 48)\/(∃c∈l,isDig c=false)):parseErr l=3:=if_pos h
theorem parseVal_err{l:List UInt8}(h:parseErr l≠0):parseVal l=0:=if_neg h
theorem parse_good{l:List UInt8}(h:l≠[])(h1:l.length=1\/l.head?≠some 48)(h2:∀c∈l,isDig c=true):parseErr l=if 1000<l.length then 6 else 0:=by
  refine if_neg ?_
  rintro(h'|⟨h',h''⟩|⟨c,h',h''⟩)
  . exact h h'
  . rcases h1 with h1|h1
    . omega
    exact h1 h''
  rw[h2 c h']at h'';cases h''
theorem str_list(s:ByteArray):s.toList=s.data.toList:=ByteArray.toList_eq s
theorem isDig_iff(c:UInt8):isDig c=true↔48<=c.toNat/\c.toNat<=57:=by unfold isDig;simp
def strLen:Value->Nat
  | .string s=>s.size
  |_=>0
theorem str_len(s:ByteArray):s.data.toList.length=s.size:=by rw[Array.length_toList];rfl
theorem valT_lt:∀(n:Nat) (l:List UInt8),l.length=n->(∀c∈l,isDig c=true)->valT l<10^n
  |0,l,h,_=>by rw[List.eq_nil_of_length_eq_zero h];decide
  | n+1,l,h,hd=>by
    have hn:l≠[]:=fun e=>by subst e;cases h
    obtain⟨m,c,rfl⟩:∃m c,l=m++[c]:=⟨l.dropLast,l.getLast hn,(List.dropLast_concat_getLast hn).symm⟩;have ih:=valT_lt n m (by simpa using h) (fun x hx=>hd x (by simp[hx]));have hc:=(isDig_iff c).1 (hd c (by simp));rw[valT_snoc,Nat.pow_succ];omega
theorem extract_tail(t:ByteArray)(n:Nat):(t.extract n t.size).data.toList=t.data.toList.drop n:=by
  rw[Lib.extract_data,List.take_of_length_le (by rw[List.length_drop,str_len];exact Nat.le_refl _)]
theorem str_at(s:ByteArray)(i:Nat)(h:i<s.size):s[i]=s.data.toList[i]'(by rw[str_len];exact h):=by
  show s.data[i]=_
  rw[Array.getElem_toList]
set_option maxRecDepth 100000 in
set_option maxHeartbeats 2000000 in
theorem parse_ok(s:ByteArray)(w:World)(hs:1<=s.size)(hl:s.size<=1000000)(hd:s.size=1\/((s[0].toNat:Int)==48)=false/\2<=s.size/\s.data.toList.head?≠some 48):
    Calls Tryz.prog 101 #[.string s] w fun e w'=> ∃v,e=.returned (.tuple #[v,.int .i64 (parseErr s.data.toList)])/\NatV w' v (parseVal s.data.toList)/\Below w.heap.size w w':=by
  have hne:s.data.toList≠[]:=fun e=>by have:=str_len s;rw[e]at this;simp at this;omega
  have he:s.toList.isEmpty=false:=by rw[str_list];simpa using hne
  have HP:=hid (parse_good hne (hd.imp (fun h=>by rw[str_len];exact h) fun h=>h.2.2));have HD0:=hid hd;obtain⟨pe,hpe⟩:∃pe,parseErr s.data.toList=pe:=⟨_,rfl⟩;obtain⟨pv,hpv⟩:∃pv,parseVal s.data.toList=pv:=⟨_,rfl⟩;have HPE:=hid hpe;have HPV:=hid hpv;rw[hpe,hpv];clear hpe hpv hne hd;go_enter Tryz.func101,Tryz.ntmps101;go_upto_region 1 with(fail);obtain⟨W1,hW1,hsz1,kR,hWb⟩:=box1_head (.slice none 0 0) 68 w;rw[<-hW1];go_cut [21]from 9999 to 9999 (fun t wl=>t=.bool false/\wl=W1)
  case first=>
    rcases HD0.out with h1|⟨h0,hs2,_⟩
    . have hs1:¬(1:Int)<(s.size:Int):=by omega
      go_wp2;go_meet
      case rel=>first|exact⟨rfl,rfl⟩|exact⟨rfl,hW1.symm⟩
    have hgt:(1:Int)<(s.size:Int):=by omega
    go_wp2;go_meet
    case rel=>first|exact⟨rfl,rfl⟩|exact⟨rfl,hW1.symm⟩
  case rest=>
  obtain⟨rfl,hwc⟩:=hcut;replace hwc:=hwc.symm;subst hwc;go_upto_region 3 with(fail);have b1:w.heap.size<W1.heap.size:=by omega
  clear hW1 hsz1;have cR:=cell_box1 kR;have fR:=free_box1 kR;clear he;go_wp2;go_loopw [25] (fun i wr=> ∃k:Nat,k<=s.size/\i=.int .i64 k/\Hid (∀j (h:j<s.size),j<k->isDig s[j]=true)/\wr=W1) (fun i _=>s.size-(intOf i).toNat)
  case atStart=>exact⟨0,Nat.zero_le _,rfl,hid (fun j _ h=>absurd h (by omega)),rfl⟩
  obtain⟨k,hk,rfl,HD,hWW⟩:=hrel;replace hWW:=hWW.symm;subst hWW
  by_cases hlt:k<s.size
  . by_cases hdg:isDig s[k]=true
    . obtain⟨q1,q2⟩:=(isDig_iff _).1 hdg;have q3:¬((s[k].toNat:Int)<48):=by omega
      have q4:¬(57<(s[k].toNat:Int)):=by omega
      have HD':=hid (show ∀j (h:j<s.size),j<k+1->isDig s[j]=true from fun j h hj=>by
        by_cases e:j=k
        . subst e;exact hdg
        exact HD.out j h (by omega))
      clear hdg q1 q2;go_wp2;go_roundw
      case rel=>exact⟨k+1,by omega,by go_num,HD',by trivial⟩
      case measure=>simp[intOf];omega
    have hbad:parseErr s.data.toList=3:=parse_syn (.inr (.inr ⟨s[k],by rw[str_at];exact List.getElem_mem _,by simpa using hdg⟩));rw[HPE.out]at hbad;have hval:pv=0:=by rw[<-HPV.out];exact parseVal_err (by rw[HPE.out,hbad];decide)
    subst hbad hval;have q:¬(48<=s[k].toNat/\s[k].toNat<=57):=fun h'=>hdg ((isDig_iff s[k]).2 h')
    clear hdg
    by_cases q3:(s[k].toNat:Int)<48
    . clear q;go_wp2;have hc3:=res_store kR (.slice none 0 0);exact bodyPost_ret (v:=.tuple #[.agg #[.slice none 0 0],.int .i64 3]) (by simp[results,Tryz.results101,go_sem,hc3]) rfl ⟨_,rfl,NatV.zero _,hWb.setCell (p:=⟨w.heap.size,0,none⟩) (Nat.le_refl _) _⟩
    have q4:57<(s[k].toNat:Int):=by omega
    clear q;go_wp2;have hc3:=res_store kR (.slice none 0 0);exact bodyPost_ret (v:=.tuple #[.agg #[.slice none 0 0],.int .i64 3]) (by simp[results,Tryz.results101,go_sem,hc3]) rfl ⟨_,rfl,NatV.zero _,hWb.setCell (p:=⟨w.heap.size,0,none⟩) (Nat.le_refl _) _⟩
  obtain rfl:k=s.size:=by omega
  have HDD:=hid (show ∀c∈s.data.toList,isDig c=true from fun c hc=>by
    obtain⟨j,hj,rfl⟩:=List.getElem_of_mem hc;have hj':j<s.size:=by rw[str_len]at hj;exact hj
    rw[<-str_at s j hj'];exact HD.out j hj' hj')
  have HPP:=hid (HP.out HDD.out);clear HD HP
  by_cases hbig:1000<s.size
  . have hbad:parseErr s.data.toList=6:=by rw[HPP.out,str_len,if_pos hbig]
    rw[HPE.out]at hbad;have hval:pv=0:=by rw[<-HPV.out];exact parseVal_err (by rw[HPE.out,hbad];decide)
    subst hbad hval;have q:(1000:Int)<(s.size:Int):=by omega
    go_wp2;have hc3:=res_store kR (.slice none 0 0);exact bodyPost_ret (v:=.tuple #[.agg #[.slice none 0 0],.int .i64 6]) (by simp[results,Tryz.results101,go_sem,hc3]) rfl ⟨_,rfl,NatV.zero _,hWb.setCell (p:=⟨w.heap.size,0,none⟩) (Nat.le_refl _) _⟩
  have hgood:parseErr s.data.toList=0:=by rw[HPP.out,str_len,if_neg hbig]
  have hpv:pv=valT s.data.toList:=by rw[<-HPV.out];unfold parseVal;rw[if_pos hgood]
  rw[HPE.out]at hgood;subst hgood hpv;have q:¬(1000:Int)<(s.size:Int):=by omega
  go_upto_region 12 with(fail);go_loopw [0,5] (fun sv dv wl=> ∃(t:ByteArray) (ds:List Nat) (k:Nat),sv=.string t/\k<=s.size/\Hid (t.data.toList=s.data.toList.drop k)/\RowU wl (w.heap.size+1) dv ds/\Hid (∀d∈ds,d<B32)/\ds.length<=k/\Hid (val B32 ds=valT (s.data.toList.take k))/\Below (w.heap.size+1) W1 wl) (fun sv _ _=>strLen sv)
  case atStart=>exact⟨s,[],0,rfl,Nat.zero_le _,hid rfl,⟨rfl,.inl ⟨rfl,rfl⟩⟩,hid (fun d h=>absurd h (List.not_mem_nil)),Nat.le_refl _,hid (by simp[valT,val]),Below.refl _ _⟩
  obtain⟨t,ds,k,rfl,hk,HTL,hrow,HDL,hdl,HVL,hbl⟩:=hrel;generalize wr=W3 at hrow hbl⊢;generalize u5=dv at hrow⊢;have HTS:=hid (show t.size=s.size-k by rw[<-str_len t,HTL.out,List.length_drop,str_len])
  by_cases ht0:k=s.size
  . have hte:t.toList.isEmpty=true:=by
      rw[str_list];have:t.data.toList=[]:=List.eq_nil_of_length_eq_zero (by rw[str_len,HTS.out];omega);rw[this];rfl
    have hb1:=hbl.size;have HT:=hid (fun(w1:World) (hb:Below W3.heap.size W3 w1)=>trim_any dv ds w1 ((hrow.digv).below hb) HDL.out (by omega));rw[HVL.out,ht0,List.take_of_length_le (by rw[str_len];exact Nat.le_refl _)]at HT;have kR3:=(hbl.block _ (by omega)).trans kR;go_wp2_with (go_at_call 104;refine(HT.out _ (Below.refl _ _)).mono ?_;clear HT;rintro e w4 ⟨v,rfl,hv,hw4⟩;obtain⟨p,c3,rfl,_⟩:=hv.dig;have kR4:=(hw4.block _ (Nat.lt_of_lt_of_le b1 hb1)).trans kR3;have cR4:=cell_box1 kR4;have fR4:=free_box1 kR4);have hc3:=res_store kR4 (.slice p (digs B32 (valT s.data.toList)).length c3);refine bodyPost_ret (v:=.tuple #[.agg #[.slice p (digs B32 (valT s.data.toList)).length c3],.int .i64 0]) (by simp[results,Tryz.results101,go_sem,hc3]) rfl ⟨_,rfl,hv.store cR4 _,?_⟩;exact(hWb.trans ((hbl.mono (by omega)).trans (hw4.mono (by omega)))).setCell (p:=⟨w.heap.size,0,none⟩) (Nat.le_refl _) _
  have hte:t.toList.isEmpty=false:=by
    rw[str_list];have:t.data.toList≠[]:=fun e=>by have:=str_len t;rw[e,HTS.out]at this;simp at this;omega
    simpa using this
  obtain⟨n,hn,hn9,hnt,hn1⟩:∃n:Nat,min 9 (t.size:Int)=(n:Int)/\n<=9/\n<=t.size/\1<=n:=by
    have:=HTS.out
    by_cases h9:9<=t.size
    . exact⟨9,by omega,by omega,h9,by omega⟩
    exact⟨t.size,by omega,by omega,Nat.le_refl _,by omega⟩
  have HTD:=hid (show ∀c∈t.data.toList,isDig c=true from fun c hc=>HDD.out c (by rw[HTL.out]at hc;exact List.mem_of_mem_drop hc));go_upto_region 16 with(fail);clear hn;go_loopw [7,8,50] (fun sc pt iv wi=> ∃i:Nat,i<=n/\iv=.int .i64 i/\sc=.int .u64 ((10^i:Nat):Int)/\pt=.int .u64 ((valT (t.data.toList.take i):Nat):Int)/\Hid (wi=W3)) (fun _ _ iv _=>n-(intOf iv).toNat)
  case atStart=>exact⟨0,Nat.zero_le _,rfl,rfl,rfl,hid rfl⟩
  obtain⟨i,hin,rfl,rfl,rfl,HW⟩:=hrel;have hww:=HW.out;subst hww;clear HW
  by_cases hil:i<n
  . have hit:i<t.size:=by omega
    have hdg:=(isDig_iff _).1 (HTD.out _ (List.getElem_mem (h:=by rw[str_len];exact hit) (l:=t.data.toList) (n:=i)));rw[<-str_at t i hit]at hdg
    have HV2:=hid (show valT (t.data.toList.take (i+1))=valT (t.data.toList.take i)*10+(t[i].toNat-48) by
      rw[List.take_succ_eq_append_getElem (by rw[str_len];exact hit),valT_snoc,str_at t i hit])
    have hpl:=valT_lt i (t.data.toList.take i) (by rw[List.length_take,str_len];omega) (fun c hc=>HTD.out c (List.mem_of_mem_take hc));have hp8:10^i<=10^8:=Nat.pow_le_pow_right (by decide) (by omega);have HP2:=hid (show 10^(i+1)=10^i*10 from Nat.pow_succ ..);obtain⟨S,hS⟩:∃S,10^i=S:=⟨_,rfl⟩;obtain⟨P,hP⟩:∃P,valT (t.data.toList.take i)=P:=⟨_,rfl⟩;rw[hS]at hp8 hpl HP2⊢;rw[hP]at hpl HV2⊢;obtain⟨c,hc⟩:∃c,t[i].toNat=c:=⟨_,rfl⟩;rw[hc]at hdg HV2;have hp8':S<=100000000:=hp8;have hii:(i:Int)<(n:Int):=by omega
    clear hS hP hp8;go_upto_region 20 with(fail);have e1:(S:Int)*10=((10^(i+1):Nat):Int):=by rw[HP2.out];omega
    have e2:(P:Int)*10+((c:Int)-48)=((valT (t.data.toList.take (i+1)):Nat):Int):=by rw[HV2.out];omega
    rw[e1,e2];clear e1 e2;go_wp2;go_roundw
    case rel=>exact⟨i+1,by omega,by go_num,rfl,rfl,hid (by trivial)⟩
    case measure=>simp[intOf];omega
  obtain rfl:i=n:=by omega
  have hpl:=valT_lt i (t.data.toList.take i) (by rw[List.length_take,str_len];omega) (fun c hc=>HTD.out c (List.mem_of_mem_take hc));have hp8:10^i<=10^9:=Nat.pow_le_pow_right (by decide) (by omega)
  have HVN:=hid (show valT (s.data.toList.take (k+i))=valT (s.data.toList.take k)*10^i+valT (t.data.toList.take i) by
    rw[List.take_add,valT_append, <-HTL.out,List.length_take,str_len,Nat.min_eq_left hnt])
  have HTN:=hid (show(t.extract i t.size).data.toList=s.data.toList.drop (k+i) by rw[extract_tail,HTL.out,List.drop_drop]);have htn:(t.extract i t.size).size=t.size-i:=by rw[<-str_len,extract_tail,List.length_drop,str_len]
  have HE:=hid (fun(w1:World) (h1:RowU w1 (w.heap.size+1) dv ds) (h2:w.heap.size+1<=w1.heap.size)=>extend_any dv ds (10^i) (valT (t.data.toList.take i)) _ w1 h1 HDL.out (by omega) hp8 (Nat.lt_of_lt_of_le hpl hp8) h2);obtain⟨t',ht'⟩:∃t',t.extract i t.size=t':=⟨_,rfl⟩;rw[ht']at HTN htn;have hk':k+i<=s.size:=by have:=HTS.out;omega
  have HTT:=hid htn;have hb1:=hbl.size;clear hpl hp8 htn;go_wp2_with (go_at_call 131;refine(HE.out _ hrow (by omega)).mono ?_;clear HE;rintro e w4 ⟨v',es,rfl,hrow4,hes,hev,hel,hb4⟩;have HEL:=hid hes;have HEV:=hid hev;clear hes hev);go_roundw
  case rel=>exact⟨t',es,k+i,rfl,hk',HTN,hrow4,HEL,by omega,hid (by rw[HEV.out,HVL.out,HVN.out]),hbl.trans hb4⟩
  case measure=>
    show strLen (.string t')<strLen (.string t)
    have:=HTT.out
    show t'.size<t.size
    omega
set_option maxHeartbeats 1000000 in
theorem parse_nil(s:ByteArray)(w:World)(hs:s.size=0):
    Calls Tryz.prog 101 #[.string s] w fun e w'=> ∃v,e=.returned (.tuple #[v,.int .i64 (parseErr s.data.toList)])/\NatV w' v (parseVal s.data.toList)/\Below w.heap.size w w':=by
  have hn:s.data.toList=[]:=List.eq_nil_of_length_eq_zero (by rw[str_len];exact hs);have he:s.toList.isEmpty=true:=by rw[str_list,hn];rfl
  have hbad:parseErr s.data.toList=3:=parse_syn (.inl hn);have hval:parseVal s.data.toList=0:=parseVal_err (by rw[hbad];decide);rw[hbad,hval];clear hbad hval;go_enter Tryz.func101,Tryz.ntmps101;go_upto_region 2 with(fail);obtain⟨W1,hW1,hsz1,kR,hWb⟩:=box1_head (.slice none 0 0) 68 w;rw[<-hW1];clear hW1 hsz1;have cR:=cell_box1 kR;have fR:=free_box1 kR;go_wp2;have hc3:=res_store kR (.slice none 0 0);exact bodyPost_ret (v:=.tuple #[.agg #[.slice none 0 0],.int .i64 3]) (by simp[results,Tryz.results101,go_sem,hc3]) rfl ⟨_,rfl,NatV.zero _,hWb.setCell (p:=⟨w.heap.size,0,none⟩) (Nat.le_refl _) _⟩
set_option maxHeartbeats 1000000 in
theorem parse_zero(s:ByteArray)(w:World)(hs:2<=s.size)(h0:((s[0].toNat:Int)==48)=true)(hh:s.data.toList.head?=some 48):
    Calls Tryz.prog 101 #[.string s] w fun e w'=> ∃v,e=.returned (.tuple #[v,.int .i64 (parseErr s.data.toList)])/\NatV w' v (parseVal s.data.toList)/\Below w.heap.size w w':=by
  have hne:s.data.toList≠[]:=fun e=>by have:=str_len s;rw[e]at this;simp at this;omega
  have he:s.toList.isEmpty=false:=by rw[str_list];simpa using hne
  have hbad:parseErr s.data.toList=3:=parse_syn (.inr (.inl ⟨by rw[str_len];omega,hh⟩));have hval:parseVal s.data.toList=0:=parseVal_err (by rw[hbad];decide);rw[hbad,hval];clear hbad hval;go_enter Tryz.func101,Tryz.ntmps101;go_upto_region 2 with(fail);obtain⟨W1,hW1,hsz1,kR,hWb⟩:=box1_head (.slice none 0 0) 68 w;rw[<-hW1];clear hW1 hsz1;have cR:=cell_box1 kR;have fR:=free_box1 kR;go_wp2;have hc3:=res_store kR (.slice none 0 0);exact bodyPost_ret (v:=.tuple #[.agg #[.slice none 0 0],.int .i64 3]) (by simp[results,Tryz.results101,go_sem,hc3]) rfl ⟨_,rfl,NatV.zero _,hWb.setCell (p:=⟨w.heap.size,0,none⟩) (Nat.le_refl _) _⟩
theorem parse_any(s:ByteArray)(w:World)(hl:s.size<=1000000):
    Calls Tryz.prog 101 #[.string s] w fun e w'=> ∃v,e=.returned (.tuple #[v,.int .i64 (parseErr s.data.toList)])/\NatV w' v (parseVal s.data.toList)/\Below w.heap.size w w':=by
  by_cases h0:s.size=0
  . exact parse_nil s w h0
  by_cases h1:s.size=1
  . exact parse_ok s w (by omega) hl (.inl h1)
  have h2:2<=s.size:=by omega
  have e:s.data.toList.head?=some s[0]:=by
    rw[List.head?_eq_getElem?,List.getElem?_eq_getElem (by rw[str_len];omega),str_at]
  by_cases hc:s[0]=48
  . exact parse_zero s w h2 (by rw[hc];rfl) (by rw[e,hc])
  refine parse_ok s w (by omega) hl (.inr ⟨?_,h2,by rw[e];simpa using hc⟩);rw[beq_eq_false_iff_ne];intro h;exact hc (UInt8.toNat_inj.1 (by show s[0].toNat=48;omega))
structure Box4(w:World)(x y r r':Value)(W:World):Prop where
  k0:W.heap[w.heap.size]?=some (.cells #[x] 68)
  k1:W.heap[w.heap.size+1]?=some (.cells #[y] 68)
  k2:W.heap[w.heap.size+1+1]?=some (.cells #[r] 68)
  k3:W.heap[w.heap.size+1+1+1]?=some (.cells #[r'] 68)
  old:Below w.heap.size w W
  sz:w.heap.size+4<=W.heap.size
theorem box4_head(s s':Value)(w:World):∃W1,W1=(((w.alloc (.cells #[s] 68)).alloc (.cells #[s'] 68)).alloc (.cells #[.slice none 0 0] 68)).alloc (.cells #[.slice none 0 0] 68)/\Box4 w s s' (.slice none 0 0) (.slice none 0 0) W1:=by
  obtain⟨W0,h0,hs,h1,h2,h3,h4⟩:=box3_head s s' w;refine⟨_,rfl,?_⟩;rw[<-h0]
  exact⟨(Below.heap_alloc _ _ _ (by omega)).trans h1,(Below.heap_alloc _ _ _ (by omega)).trans h2,(Below.heap_alloc _ _ _ (by omega)).trans h3,by
    have:=heap_new W0 (.cells #[.slice none 0 0] 68);rw[hs]at this;exact this,h4.alloc (by omega) _,by simp;omega⟩
theorem Box4.below{w W W':World}{x y r r':Value}(h:Box4 w x y r r' W)(hb:Below W.heap.size W W'):Box4 w x y r r' W':=by
  have:=h.sz;exact⟨(hb.block _ (by omega)).trans h.k0,(hb.block _ (by omega)).trans h.k1,(hb.block _ (by omega)).trans h.k2,(hb.block _ (by omega)).trans h.k3,h.old.trans (hb.mono (by omega)),Nat.le_trans h.sz hb.size⟩
theorem Box4.set2{w W:World}{x y r r':Value}(h:Box4 w x y r r' W)(u:Value):Box4 w x y u r' (W.setCell ⟨w.heap.size+1+1,0,none⟩ u):=by
  exact⟨by rw[setCell_far _ (by omega)];exact h.k0,by rw[setCell_far _ (by omega)];exact h.k1,box_store h.k2 u,by rw[setCell_far _ (by omega)];exact h.k3,h.old.setCell (p:=⟨w.heap.size+1+1,0,none⟩) (by show _<=w.heap.size+1+1;omega) _,by simpa[World.setCell]using h.sz⟩
theorem Box4.set3{w W:World}{x y r r':Value}(h:Box4 w x y r r' W)(u:Value):Box4 w x y r u (W.setCell ⟨w.heap.size+1+1+1,0,none⟩ u):=by
  exact⟨by rw[setCell_far _ (by omega)];exact h.k0,by rw[setCell_far _ (by omega)];exact h.k1,by rw[setCell_far _ (by omega)];exact h.k2,box_store h.k3 u,h.old.setCell (p:=⟨w.heap.size+1+1+1,0,none⟩) (by show _<=w.heap.size+1+1+1;omega) _,by simpa[World.setCell]using h.sz⟩
theorem Box4.drew{w W:World}{x y r r':Value}(h:Box4 w x y r r' W):Box4 w x y r r' W.drew:=⟨h.k0,h.k1,h.k2,h.k3,h.old.drew,h.sz⟩
set_option maxRecDepth 100000 in
set_option maxHeartbeats 2000000 in
theorem divmod_64(v u:Value)(n m:Nat)(w:World)(hv:NatV w v n)(hu:NatV w u m)(hm:m≠0)(hle:m<=n)(hn:n<18446744073709551616):
    Calls Tryz.prog 142 #[v,u] w fun e w'=> ∃x y,e=.returned (.tuple #[x,y,.int .i64 0])/\NatV w' x (n/m)/\NatV w' y (n%m)/\Below w.heap.size w w':=by
  have hln:(digs B32 n).length<=2:=digs_len_le b32_2 2 n (by rw[b32];exact hn);have hlm:(digs B32 m).length<=2:=digs_len_le b32_2 2 m (by rw[b32];omega);have HZ:=hid (fun w1 (hb:Below w.heap.size w w1)=>isZero_any u m w1 (hu.below hb));have HC:=hid (fun w1 (hb:Below w.heap.size w w1)=>cmp_any v u n m w1 (hv.below hb) (hu.below hb) (by omega) (by omega));have HU:=hid (fun w1 (hb:Below w.heap.size w w1)=>uint64_any v n w1 (hv.below hb));have HU':=hid (fun w1 (hb:Below w.heap.size w w1)=>uint64_any u m w1 (hu.below hb));rw[show(m==0)=false by simpa using hm]at HZ;rw[show u64V n=.tuple #[.int .u64 (n:Int),.bool true] by unfold u64V;rw[if_pos hn,decide_eq_true hn]]at HU;rw[show u64V m=.tuple #[.int .u64 (m:Int),.bool true] by unfold u64V;rw[if_pos (by omega),decide_eq_true (by omega)]]at HU';have hcn:¬cmpN n m<0:=by unfold cmpN;rw[if_neg (by omega)];split<;>omega
  have HO1:=hid (fun w1=>of_any (n/m) w1 (Nat.lt_of_le_of_lt (Nat.div_le_self _ _) hn));have HO2:=hid (fun w1=>of_any (n%m) w1 (by have:=Nat.mod_lt n (Nat.pos_of_ne_zero hm);omega));obtain⟨P,c,rfl,hp⟩:=hv.digp;obtain⟨Q,c',rfl,hq⟩:=hu.digp;clear hp hq hv hu hln hlm;go_enter Tryz.func142,Tryz.ntmps142;go_upto_region 1 with(fail);obtain⟨W0,hW0,hB0⟩:=box4_head (.slice P (digs B32 n).length c) (.slice Q (digs B32 m).length c') w;rw[<-hW0];clear hW0;have a1:=cell_box1 hB0.k1;go_upto_region 3 with(go_at_call 55;refine(HZ.out _ hB0.old).mono ?_;clear HZ;rintro e W1 ⟨rfl,hw1⟩;have hB1:=hB0.below hw1);clear hB0 hw1 a1;have a0:=cell_box1 hB1.k0;have a1:=cell_box1 hB1.k1;go_upto_region 5 with(go_at_call 116;refine(HC.out _ hB1.old).mono ?_;clear HC;rintro e W2 ⟨rfl,hw2⟩;have hB2:=hB1.below hw2);clear hB1 hw2 a0 a1;have a0:=cell_box1 hB2.k0;go_upto_region 6 with(go_at_call 151;refine(HU.out _ hB2.old).mono ?_;clear HU;rintro e W3 ⟨rfl,hw3⟩;have hB3:=hB2.below hw3);clear hB2 hw3 a0;have a1:=cell_box1 hB3.k1;go_upto_region 8 with(go_at_call 151;refine(HU'.out _ hB3.old).mono ?_;clear HU';rintro e W4 ⟨rfl,hw4⟩;have hB4:=hB3.below hw4);clear hB3 hw4 a1;have hmi:¬m=0:=hm
  have hq1:(n:Int)/(m:Int)<18446744073709551616:=by
    have e:(n:Int)/(m:Int)=((n/m:Nat):Int):=rfl;have:=Nat.div_le_self n m;rw[e];omega
  have hq2:0<=(n:Int)/(m:Int):=Int.natCast_nonneg (n/m)
  have hr1:(n:Int)%(m:Int)<18446744073709551616:=by
    have e:(n:Int)%(m:Int)=((n%m:Nat):Int):=rfl;have:=Nat.mod_le n m;rw[e];omega
  have hr2:0<=(n:Int)%(m:Int):=Int.natCast_nonneg (n%m);refine wp_region_staged (fun w'=>Box4 w (.slice P (digs B32 n).length c) (.slice Q (digs B32 m).length c') (.slice none 0 0) (.slice none 0 0) w') [0,0,0,2,0,0,0,2,2,2,0] (by kernel_rfl) (by kernel_rfl) (by kernel_rfl) (hB4.drew) ?_
  iterate 3 (refine zs0 ?_)
  apply lexE (α:=Option Addr × Nat) (fun x=>.agg #[.slice x.1 (digs B32 (n/m)).length x.2]) (fun x w'=>Box4 w (.slice P (digs B32 n).length c) (.slice Q (digs B32 m).length c') (.slice none 0 0) (.slice none 0 0) w'/\NatV w' (.agg #[.slice x.1 (digs B32 (n/m)).length x.2]) (n/m)) rfl
  . intro w' hB;go_simp;refine(HO1.out _).mono ?_
    rintro e w5 ⟨x,rfl,hx,hw5⟩
    obtain⟨p,c5,rfl,_⟩:=hx.dig;exact⟨_,rfl,p,c5,rfl,hB.below hw5,hx⟩
  rintro⟨p5,c5⟩
  refine zs4 ?_
  iterate 3 (refine zs0 ?_)
  apply lexE (α:=Option Addr × Nat) (fun x=>.agg #[.slice x.1 (digs B32 (n%m)).length x.2]) (fun x w'=>Box4 w (.slice P (digs B32 n).length c) (.slice Q (digs B32 m).length c') (.slice none 0 0) (.slice none 0 0) w'/\NatV w' (.agg #[.slice p5 (digs B32 (n/m)).length c5]) (n/m)/\NatV w' (.agg #[.slice x.1 (digs B32 (n%m)).length x.2]) (n%m)) rfl
  . rintro w' ⟨hB,hx⟩
    go_simp;refine(HO2.out _).mono ?_
    rintro e w6 ⟨x,rfl,hy,hw6⟩
    obtain⟨p,c6,rfl,_⟩:=hy.dig;exact⟨_,rfl,p,c6,rfl,hB.below hw6,hx.below hw6,hy⟩
  rintro⟨p6,c6⟩
  refine zs4 ?_;apply lexS (fun w'=>Box4 w (.slice P (digs B32 n).length c) (.slice Q (digs B32 m).length c') (.slice p5 (digs B32 (n/m)).length c5) (.slice none 0 0) w'/\NatV w' (.agg #[.slice p5 (digs B32 (n/m)).length c5]) (n/m)/\NatV w' (.agg #[.slice p6 (digs B32 (n%m)).length c6]) (n%m)) rfl
  . rintro w' ⟨hB,hx,hy⟩
    have c2:=cell_box1 hB.k2;have f2:=free_box1 hB.k2;go_simp;exact⟨rfl,hB.set2 _,hx.store c2 _,hy.store c2 _⟩
  simp only[Act.put];apply lexS (fun w'=>Box4 w (.slice P (digs B32 n).length c) (.slice Q (digs B32 m).length c') (.slice p5 (digs B32 (n/m)).length c5) (.slice p6 (digs B32 (n%m)).length c6) w'/\NatV w' (.agg #[.slice p5 (digs B32 (n/m)).length c5]) (n/m)/\NatV w' (.agg #[.slice p6 (digs B32 (n%m)).length c6]) (n%m)) rfl
  . rintro w' ⟨hB,hx,hy⟩
    have c2:=cell_box1 hB.k3;have f2:=free_box1 hB.k3;go_simp;exact⟨rfl,hB.set3 _,hx.store c2 _,hy.store c2 _⟩
  simp only[Act.put];refine zs0 ?_;refine lexEnd (fun W5 hw5=>?_);obtain⟨hB,hx,hy⟩:=hw5;have c2:=cell_box1 hB.k2;have c3:=cell_box1 hB.k3;go_wp2;exact bodyPost_ret (v:=.tuple #[.agg #[.slice p5 (digs B32 (n/m)).length c5],.agg #[.slice p6 (digs B32 (n%m)).length c6],.int .i64 0]) (by simp[results,Tryz.results142,go_sem,c2,c3]) rfl ⟨_,_,rfl,hx,hy,hB.old⟩
set_option maxHeartbeats 1000000 in
theorem divmod_zero(v u:Value)(n:Nat)(w:World)(hv:NatV w v n)(hu:NatV w u 0):
    Calls Tryz.prog 142 #[v,u] w fun e w'=>e=.returned (.tuple #[.agg #[.slice none 0 0],.agg #[.slice none 0 0],.int .i64 10])/\Below w.heap.size w w':=by
  have HZ:=hid (fun w1 (hb:Below w.heap.size w w1)=>isZero_any u 0 w1 (hu.below hb));obtain⟨P,c,rfl,hp⟩:=hv.digp;obtain⟨Q,c',rfl,hq⟩:=hu.digp;clear hp hq hv hu;go_enter Tryz.func142,Tryz.ntmps142;go_upto_region 1 with(fail);obtain⟨W0,hW0,hB0⟩:=box4_head (.slice P (digs B32 n).length c) (.slice Q (digs B32 0).length c') w;rw[<-hW0];clear hW0;have a1:=cell_box1 hB0.k1;go_upto_region 2 with(go_at_call 55;refine(HZ.out _ hB0.old).mono ?_;clear HZ;rintro e W1 ⟨rfl,hw1⟩;have hB1:=hB0.below hw1);clear hB0 hw1 a1;have c2:=cell_box1 hB1.k2;have c3:=cell_box1 hB1.k3;have f2:=free_box1 hB1.k2;have f3:=free_box1 hB1.k3;have hB2:=(hB1.set2 (.slice none 0 0)).set3 (.slice none 0 0);have d2:=cell_box1 hB2.k2;have d3:=cell_box1 hB2.k3;go_wp2;exact bodyPost_ret (v:=.tuple #[.agg #[.slice none 0 0],.agg #[.slice none 0 0],.int .i64 10]) (by simp[results,Tryz.results142,go_sem,d2,d3]) rfl ⟨rfl,hB2.old⟩
set_option maxRecDepth 100000 in
set_option maxHeartbeats 2000000 in
theorem divmod_lt(v u:Value)(n m:Nat)(w:World)(hv:NatV w v n)(hu:NatV w u m)(hlt:n<m)(hln:(digs B32 n).length<=1000000)(hlm:(digs B32 m).length<=1000000):
    Calls Tryz.prog 142 #[v,u] w fun e w'=> ∃x y,e=.returned (.tuple #[x,y,.int .i64 0])/\NatV w' x (n/m)/\NatV w' y (n%m)/\Below w.heap.size w w':=by
  have HZ:=hid (fun w1 (hb:Below w.heap.size w w1)=>isZero_any u m w1 (hu.below hb));have HC:=hid (fun w1 (hb:Below w.heap.size w w1)=>cmp_any v u n m w1 (hv.below hb) (hu.below hb) hln hlm);have HV:=hid (fun w1 (hb:Below w.heap.size w w1)=>hv.below hb);rw[show(m==0)=false by rw[beq_eq_false_iff_ne];omega]at HZ;rw[cmpN_lt hlt]at HC;rw[Nat.div_eq_of_lt hlt,Nat.mod_eq_of_lt hlt];obtain⟨P,c,rfl,hp⟩:=hv.digp;obtain⟨Q,c',rfl,hq⟩:=hu.digp;clear hp hq hv hu hlt;go_enter Tryz.func142,Tryz.ntmps142;go_upto_region 1 with(fail);obtain⟨W0,hW0,hB0⟩:=box4_head (.slice P (digs B32 n).length c) (.slice Q (digs B32 m).length c') w;rw[<-hW0];clear hW0;have a1:=cell_box1 hB0.k1;go_upto_region 3 with(go_at_call 55;refine(HZ.out _ hB0.old).mono ?_;clear HZ;rintro e W1 ⟨rfl,hw1⟩;have hB1:=hB0.below hw1);clear hB0 hw1 a1;have a0:=cell_box1 hB1.k0;have a1:=cell_box1 hB1.k1;go_upto_region 4 with(go_at_call 116;refine(HC.out _ hB1.old).mono ?_;clear HC;rintro e W2 ⟨rfl,hw2⟩;have hB2:=hB1.below hw2);clear hB1 hw2 a0 a1;refine wp_region_stagedP (fun w'=>w'.heap[w.heap.size]?=some (.cells #[.slice P (digs B32 n).length c] 68)) (fun w'=>w'.heap[w.heap.size]?=some (.cells #[.slice P (digs B32 n).length c] 68)/\Box4 w (.slice P (digs B32 n).length c) (.slice Q (digs B32 m).length c') (.slice none 0 0) (.slice none 0 0) w') [0,0,2,2,0] (by kernel_rfl) (by kernel_rfl) (by kernel_rfl) (fun _ h=>h.1) (⟨hB2.k0,hB2.drew⟩) ?_;refine zs0 ?_;apply lexP rfl
  . intro w' hw';have a0:=cell_box1 hw';go_simp;(try go_bits);exact⟨rfl,rfl⟩
  refine zs4 ?_;apply lexS (hP:=fun _ h=>h.1) (fun w'=>w'.heap[w.heap.size]?=some (.cells #[.slice P (digs B32 n).length c] 68)/\Box4 w (.slice P (digs B32 n).length c) (.slice Q (digs B32 m).length c') (.slice none 0 0) (.slice none 0 0) w') rfl
  . rintro w' ⟨_,hB⟩
    have c2:=cell_box1 hB.k2;have f2:=free_box1 hB.k2;go_simp;exact⟨rfl,(hB.set2 _).k0,hB.set2 _⟩
  simp only[Act.put];apply lexS (hP:=fun _ h=>h.1) (fun w'=>w'.heap[w.heap.size]?=some (.cells #[.slice P (digs B32 n).length c] 68)/\Box4 w (.slice P (digs B32 n).length c) (.slice Q (digs B32 m).length c') (.slice none 0 0) (.slice P (digs B32 n).length c) w') rfl
  . rintro w' ⟨_,hB⟩
    have c2:=cell_box1 hB.k3;have f2:=free_box1 hB.k3;go_simp;exact⟨rfl,(hB.set3 _).k0,hB.set3 _⟩
  simp only[Act.put];refine zs0 ?_;refine lexEnd (fun W5 hw5=>?_);have hB:=hw5.2;have c2:=cell_box1 hB.k2;have c3:=cell_box1 hB.k3;go_wp2;exact bodyPost_ret (v:=.tuple #[.agg #[.slice none 0 0],.agg #[.slice P (digs B32 n).length c],.int .i64 0]) (by simp[results,Tryz.results142,go_sem,c2,c3]) rfl ⟨_,_,rfl,NatV.zero _,HV.out _ hB.old,hB.old⟩
theorem gcd_step(x y:Nat):Nat.gcd y (x%y)=Nat.gcd x y:=by rw[Nat.gcd_comm x y,Nat.gcd_rec y x,Nat.gcd_comm]
end
section
theorem grown_store{W W':World}{D k:Nat}(h:W.grownBy W' (some D))(_hD:D<W.heap.size)(u:Value):W.grownBy (W'.setCell ⟨D,k,none⟩ u) (some D):=by
  obtain⟨h1,h2,h3,h4,h5⟩:=h;refine⟨h1,h2,h3,by simpa[World.setCell]using h4,fun j hj hne=>?_⟩;rw[Below.heap_setCell _ _ _ _ (fun e=>hne (by rw[e]))];exact h5 j hj hne
theorem grown_refl(W:World)(o:Option Nat):W.grownBy W o:=⟨rfl,rfl,rfl,Nat.le_refl _,fun _ _ _=>rfl⟩
theorem grown_trans{W W' W'':World}{o:Option Nat}(h:W.grownBy W' o)(h':W'.grownBy W'' o):W.grownBy W'' o:=by
  obtain⟨h1,h2,h3,h4,h5⟩:=h;obtain⟨g1,g2,g3,g4,g5⟩:=h';exact⟨g1.trans h1,g2.trans h2,g3.trans h3,Nat.le_trans h4 g4,fun j hj hne=>(g5 j (Nat.lt_of_lt_of_le hj h4) hne).trans (h5 j hj hne)⟩
theorem grown_below{W W':World}{D:Nat}(h:W.grownBy W' (some D))(hD:D<=W.heap.size):Below D W W':=by
  obtain⟨h1,h2,h3,h4,h5⟩:=h;exact⟨h1,h2,h3,h4,fun j hj=>h5 j (by omega) (fun e=>by injection e with e;omega)⟩
theorem below_grown{W W':World}{o:Option Nat}(h:Below W.heap.size W W'):W.grownBy W' o:=⟨h.os,h.tape,h.output,h.size,fun k hk _=>h.block k hk⟩
theorem arr_other{W W':World}{D E:Nat}{vs:List Nat}(h:Arr W E vs)(hg:W.grownBy W' (some D))(hne:E≠D):Arr W' E vs:=by
  obtain⟨_,_,_,_,h5⟩:=hg;exact(h5 E h.lt (fun e=>by injection e with e;exact hne e)).trans h
theorem mid_at{A xs C:List Nat}{i:Nat}(hi:i<xs.length)(h:A.length+i<(A++xs++C).length):(A++xs++C)[A.length+i]=xs[i]:=by
  rw[List.getElem_append_left (by rw[List.length_append];omega),List.getElem_append_right (by omega)];simp
theorem mid_set{A xs C:List Nat}{i v:Nat}(hi:i<xs.length):(A++xs++C).set (A.length+i) v=A++xs.set i v++C:=by
  rw[List.set_append_left _ _ (by rw[List.length_append];omega),List.set_append_right _ _ (by omega)];simp
def Win(W:World)(D:Nat)(A xs C:List Nat):Prop:=Arr W D (A++xs++C)
theorem Win.cell{W:World}{D:Nat}{A xs C:List Nat}(h:Win W D A xs C){i:Nat}(hi:i<xs.length):W.cell? ⟨D,A.length+i,none⟩=some (.int .u32 (xs[i]:Int)):=by
  have hl:A.length+i<(A++xs++C).length:=by rw[List.length_append,List.length_append];omega
  have:=Arr.cell h (A.length+i) hl
  rwa [mid_at hi hl]at this
theorem Win.store{W:World}{D:Nat}{A xs C:List Nat}(h:Win W D A xs C){i:Nat}(hi:i<xs.length)(v:Nat):Win (W.setCell ⟨D,A.length+i,none⟩ (.int .u32 (v:Int))) D A (xs.set i v) C:=by
  have:=Arr.store h (A.length+i) v
  rwa [mid_set hi]at this
structure RedAt(W0:World)(D:Nat)(A us C vs:List Nat)(q i p b:Nat)(wr:World):Prop where
  arr:∃xs,Win wr D A xs C/\xs.length=us.length/\(∀x∈xs,x<B32)/\xs.drop i=us.drop i/\val B32 (xs.take i)+q*val B32 (vs.take i)=val B32 (us.take i)+B32^i*(p+b)
  old:W0.grownBy wr (some D)
  p1:p<=4294967295
  b1:b<=1
theorem drop_at{xs us:List Nat}{i:Nat}(h:xs.drop i=us.drop i)(hi:i<xs.length)(hu:i<us.length):xs[i]=us[i]/\xs.drop (i+1)=us.drop (i+1):=by
  rw[List.drop_eq_getElem_cons hi,List.drop_eq_getElem_cons hu]at h;exact List.cons.inj h
theorem red_val{xs us vs:List Nat}{q i p b v u x t:Nat}(hx:i<xs.length)(hu:i<us.length)(hv:val B32 (vs.take (i+1))=val B32 (vs.take i)+B32^i*v)(hue:us[i]=u)(h:val B32 (xs.take i)+q*val B32 (vs.take i)=val B32 (us.take i)+B32^i*(p+b))(hs:x+v*q+p+b=u+B32*t):
    val B32 ((xs.set i x).take (i+1))+q*val B32 (vs.take (i+1))=val B32 (us.take (i+1))+B32^(i+1)*t:=by
  rw[val_take_set hx,val_take_succ hu,hue,hv,Nat.pow_succ,Nat.mul_assoc];generalize B32^i=P at*
  have e:P*x+q*(P*v)+P*(p+b)=P*u+P*(B32*t):=by
    rw[<-Nat.mul_add P u, <-hs,Nat.mul_add,Nat.mul_add,Nat.mul_add,Nat.mul_add];rw[show q*(P*v)=P*(v*q) by ac_rfl];omega
  rw[Nat.mul_add q];omega
theorem RedAt.step{W0 wr:World}{D:Nat}{A us C vs:List Nat}{q i p b u v:Nat}(h:RedAt W0 D A us C vs q i p b wr)(hD:D<W0.heap.size)(hi:i<vs.length)(hl:us.length=vs.length+1)(hu:us[i]'(by omega)=u)(hv:vs[i]=v)(hu1:u<=4294967295)(hv1:v<=4294967295)(hq1:q<=4294967295):
    RedAt W0 D A us C vs q (i+1) ((p+v*q)/4294967296) (if u<(p+v*q)%4294967296+b then 1 else 0) (wr.setCell ⟨D,A.length+i,none⟩ (.int .u32 (((u+4294967296-(p+v*q)%4294967296-b)%4294967296:Nat):Int))):=by
  obtain⟨⟨xs,h1,h2,h3,h4,h5⟩,h6,h7,h8⟩:=h;have hix:i<xs.length:=by omega
  obtain⟨_,hd⟩:=drop_at h4 hix (by omega);refine⟨⟨_,h1.store hix _,by simpa using h2,all_set h3 (by rw[b32];omega),?_,?_⟩,grown_store h6 hD _,?_,by split<;>omega⟩
  . rw[List.drop_set_of_lt (by omega)];exact hd
  . refine red_val hix (by omega) (by rw[val_take_succ hi,hv]) hu h5 ?_;have:=red_step (B:=B32) (u:=u) (p:=p) (b:=b) (v:=v) (q:=q) (by decide) (by rw[b32];omega) h8;rw[b32]at this⊢;rw[this];exact congrArg (fun t=>u+4294967296*t) (Nat.add_comm _ _)
  have h9:v*q<=4294967295*4294967295:=Nat.mul_le_mul hv1 hq1;omega
structure RedOut(W0:World)(D:Nat)(A us C vs:List Nat)(q b:Nat)(wr:World):Prop where
  arr:∃xs,Win wr D A xs C/\xs.length=us.length/\(∀x∈xs,x<B32)/\val B32 xs+q*val B32 vs=val B32 us+B32^us.length*b
  old:W0.grownBy wr (some D)
theorem RedAt.last{W0 wr:World}{D:Nat}{A us C vs:List Nat}{q n p b u:Nat}(h:RedAt W0 D A us C vs q n p b wr)(hD:D<W0.heap.size)(hn:n=vs.length)(hl:us.length=n+1)(hu:us[n]'(by omega)=u)(hu1:u<=4294967295):
    RedOut W0 D A us C vs q (if u<p+b then 1 else 0) (wr.setCell ⟨D,A.length+n,none⟩ (.int .u32 (((u+4294967296-p-b)%4294967296:Nat):Int))):=by
  obtain⟨⟨xs,h1,h2,h3,h4,h5⟩,h6,h7,h8⟩:=h;have hix:n<xs.length:=by omega
  refine⟨⟨_,h1.store hix _,by simpa using h2,all_set h3 (by rw[b32];omega),?_⟩,grown_store h6 hD _⟩;have hs:=red_step (B:=B32) (u:=u) (p:=p) (b:=b) (v:=0) (q:=q) (by decide) (by rw[b32];omega) h8;have hp:(p+0*q)%B32=p:=by rw[b32,Nat.zero_mul,Nat.add_zero,Nat.mod_eq_of_lt (by omega)]
  have hp2:(p+0*q)/B32=0:=by rw[b32,Nat.zero_mul,Nat.add_zero];omega
  rw[hp,hp2,Nat.add_zero]at hs;have hv0:val B32 (vs.take (n+1))=val B32 (vs.take n)+B32^n*0:=by rw[List.take_of_length_le (by omega),List.take_of_length_le (by omega)];simp
  have hr:=red_val (x:=(u+4294967296-p-b)%4294967296) hix (by omega) hv0 hu h5 (by rw[b32]at hs;exact hs);rw[List.take_of_length_le (by rw[List.length_set];omega),List.take_of_length_le (by omega),List.take_of_length_le (by omega), <-hl]at hr;exact hr
structure BackAt(W0:World)(D:Nat)(A xs C vs:List Nat)(i c:Nat)(wr:World):Prop where
  arr:∃ys,Win wr D A ys C/\ys.length=xs.length/\(∀y∈ys,y<B32)/\ys.drop i=xs.drop i/\val B32 (ys.take i)+B32^i*c=val B32 (xs.take i)+val B32 (vs.take i)
  old:W0.grownBy wr (some D)
  c1:c<=1
theorem back_val{ys xs vs:List Nat}{i c u v:Nat}(hy:i<ys.length)(hx:i<xs.length)(hv:val B32 (vs.take (i+1))=val B32 (vs.take i)+B32^i*v)(hxe:xs[i]=u)(h:val B32 (ys.take i)+B32^i*c=val B32 (xs.take i)+val B32 (vs.take i)):
    val B32 ((ys.set i ((u+v+c)%4294967296)).take (i+1))+B32^(i+1)*((u+v+c)/4294967296)=val B32 (xs.take (i+1))+val B32 (vs.take (i+1)):=by
  rw[val_take_set hy,val_take_succ hx,hxe,hv,Nat.pow_succ,Nat.mul_assoc];have hb:=b32;generalize B32^i=P at*
  have e:P*((u+v+c)%4294967296)+P*(B32*((u+v+c)/4294967296))=P*u+P*v+P*c:=by
    rw[hb, <-Nat.mul_add,Nat.mod_add_div,Nat.mul_add,Nat.mul_add]
  omega
theorem BackAt.step{W0 wr wr':World}{D:Nat}{A xs C vs:List Nat}{i c u v:Nat}(h:BackAt W0 D A xs C vs i c wr)(hw:Below wr.heap.size wr wr')(hD:D<W0.heap.size)(hi:i<vs.length)(hl:xs.length=vs.length+1)(hu:xs[i]'(by omega)=u)(hv:vs[i]=v)(hu1:u<=4294967295)(hv1:v<=4294967295):
    BackAt W0 D A xs C vs (i+1) ((u+v+c)/4294967296) (wr'.setCell ⟨D,A.length+i,none⟩ (.int .u32 (((u+v+c)%4294967296:Nat):Int))):=by
  obtain⟨⟨ys,h1,h2,h3,h4,h5⟩,h6,h7⟩:=h;have hiy:i<ys.length:=by omega
  obtain⟨_,hd⟩:=drop_at h4 hiy (by omega);have h1':Win wr' D A ys C:=Arr.below h1 hw;refine⟨⟨_,h1'.store hiy _,by simpa using h2,all_set h3 (by rw[b32];omega),?_,back_val hiy (by omega) (by rw[val_take_succ hi,hv]) hu h5⟩,grown_store (grown_trans h6 (below_grown hw)) hD _,by omega⟩;rw[List.drop_set_of_lt (by omega)];exact hd
theorem BackAt.last{W0 wr:World}{D:Nat}{A xs C vs:List Nat}{n c u:Nat}(h:BackAt W0 D A xs C vs n c wr)(hD:D<W0.heap.size)(hn:n=vs.length)(hl:xs.length=n+1)(hu:xs[n]'(by omega)=u):
    ∃ys,Win (wr.setCell ⟨D,A.length+n,none⟩ (.int .u32 (((u+c)%4294967296:Nat):Int))) D A ys C/\ys.length=xs.length/\(∀y∈ys,y<B32)/\val B32 ys+B32^xs.length*((u+c)/4294967296)=val B32 xs+val B32 vs/\W0.grownBy (wr.setCell ⟨D,A.length+n,none⟩ (.int .u32 (((u+c)%4294967296:Nat):Int))) (some D):=by
  obtain⟨⟨ys,h1,h2,h3,h4,h5⟩,h6,h7⟩:=h;have hiy:n<ys.length:=by omega
  refine⟨_,h1.store hiy _,by simpa using h2,all_set h3 (by rw[b32];omega),?_,grown_store h6 hD _⟩;have hv0:val B32 (vs.take (n+1))=val B32 (vs.take n)+B32^n*0:=by rw[List.take_of_length_le (by omega),List.take_of_length_le (by omega)];simp
  have hr:=back_val hiy (by omega) hv0 hu h5;rw[Nat.add_zero]at hr;rw[List.take_of_length_le (by rw[List.length_set];omega),List.take_of_length_le (by omega),List.take_of_length_le (by omega), <-hl]at hr;exact hr
set_option maxRecDepth 100000 in
set_option maxHeartbeats 4000000 in
theorem reduce_any(D E cE:Nat)(A us C vs:List Nat)(q:Nat)(w:World)(hD:Win w D A us C)(hE:Arr w E vs)(hne:E≠D)(hl:us.length=vs.length+1)(hub:∀u∈us,u<B32)(hvb:∀v∈vs,v<B32)(hV:0<val B32 vs)(hq1:q<=4294967295)
    (h1:val B32 us/val B32 vs<=q) (h2:q<=val B32 us/val B32 vs+1) (_hA:A.length<=1000000) (hn:vs.length<=1000000):
    Calls Tryz.prog 164 #[.slice (some ⟨D,A.length,none⟩) (vs.length+1) (vs.length+1),.slice (some ⟨E,0,none⟩) vs.length cE,.int .u32 (q:Int)] w fun e w'=>e=.returned (.int .u32 ((val B32 us/val B32 vs:Nat):Int))/\(∃us',us'.length=us.length/\(∀u∈us',u<B32)/\val B32 us'=val B32 us%val B32 vs/\Win w' D A us' C)/\w.grownBy w' (some D):=by
  have HUB:=hid hub;have HVB:=hid hvb;have HE:=hid hE;have HNE:=hid hne;have HV:=hid hV;have HQ1:=hid h1;have HQ2:=hid h2;have hDl:=hD.lt;have hEl:=hE.lt;have HUL:=hid (val_lt b32_2 hub);have HVL:=hid (val_lt b32_2 hvb);have hat0:RedAt w D A us C vs q 0 0 0 w:=⟨⟨us,hD,rfl,hub,rfl,by simp[val]⟩,grown_refl _ _,by omega,by omega⟩;clear hub hvb hE hne hV h1 h2 hD;obtain⟨U,hU⟩:∃U,val B32 us=U:=⟨_,rfl⟩;obtain⟨V,hV⟩:∃V,val B32 vs=V:=⟨_,rfl⟩;rw[hU,hV]at HQ1 HQ2⊢;rw[hV]at HV HVL;rw[hU]at HUL;have HUE:=hid hU;have HVE:=hid hV;clear hU hV;go_enter Tryz.func164,Tryz.ntmps164;go_wp2_with fail;go_loopw [8,9,16] (fun pv bv iv wr=> ∃i p b:Nat,i<=vs.length/\iv=.int .i64 (i:Int)/\pv=.int .u64 (p:Int)/\bv=.int .u32 (b:Int)/\RedAt w D A us C vs q i p b wr) (fun _ _ iv _=>vs.length-(intOf iv).toNat)
  case atStart=>exact⟨0,0,0,Nat.zero_le _,rfl,rfl,rfl,hat0⟩
  clear hat0;obtain⟨i,p,b,hi,rfl,rfl,rfl,hat⟩:=hrel;generalize wr=W1 at hat⊢;have hp1:=hat.p1;have hb1:=hat.b1;obtain⟨xs,hwin,hxl,hxb,hxd,_⟩:=hat.arr;have hvs:=arr_other HE.out hat.old HNE.out;have hfr:=hwin.free;have hDl1:=hwin.lt
  by_cases hlt:i<vs.length
  . have hix:i<xs.length:=by omega
    have hiu:i<us.length:=by omega
    have cu:=hwin.cell hix;rw[(drop_at hxd hix hiu).1]at cu;have cv:=hvs.cell i hlt;have hu1:us[i]<=4294967295:=by have:=HUB.out _ (List.getElem_mem hiu);rw[b32]at this;omega
    have hv1:vs[i]<=4294967295:=by have:=HVB.out _ (List.getElem_mem hlt);rw[b32]at this;omega
    obtain⟨u,hu⟩:∃u,us[i]=u:=⟨_,rfl⟩;obtain⟨v,hv⟩:∃v,vs[i]=v:=⟨_,rfl⟩;rw[hu]at cu hu1;rw[hv]at cv hv1;have HS:=hid (hat.step hDl hlt hl hu hv hu1 hv1 hq1);have hvl:=hvs.lt;have h9:v*q<=4294967295*4294967295:=Nat.mul_le_mul hv1 hq1;have hm0:0<=(v:Int)*(q:Int):=Int.mul_nonneg (by omega) (by omega)
    have hm1:(v:Int)*(q:Int)<=18446744065119617025:=by
      have e1:((v*q:Nat):Int)=(v:Int)*(q:Int):=Int.natCast_mul v q;omega
    obtain⟨t,ht,ht2⟩:∃t:Nat,p+v*q=t/\(p:Int)+(v:Int)*(q:Int)=(t:Int):=⟨_,rfl,by simp only[Int.natCast_add,Int.natCast_mul]⟩;have htb:(t:Int)<=18446744073709551615:=by omega
    rw[ht]at HS;have HSB:=hid (fun w1=>show Calls Tryz.prog 150 #[.int .u32 (u:Int),.int .u32 ((t:Int)%4294967296),.int .u32 (b:Int)] w1 _ from sub32_any u (t%4294967296) b w1 hu1 (by omega) hb1);clear hu hv ht h9 hat hxd hxb hxl;go_upto_region 8 with(fail);clear ht2 hm0 hm1;go_wp2_with (go_at_call 150;refine(HSB.out _).mono ?_;clear HSB;rintro e w2 ⟨rfl,rfl⟩);go_roundw
    case rel=>exact⟨i+1,t/4294967296,_,by omega,by go_num,rfl,rfl,HS.out⟩
    case measure=>simp[intOf];omega
  obtain rfl:i=vs.length:=by omega
  have hix:vs.length<xs.length:=by omega
  have hiu:vs.length<us.length:=by omega
  have cu:=hwin.cell hix;rw[(drop_at hxd hix hiu).1]at cu;have hu1:us[vs.length]<=4294967295:=by have:=HUB.out _ (List.getElem_mem hiu);rw[b32]at this;omega
  obtain⟨u,hu⟩:∃u,us[vs.length]=u:=⟨_,rfl⟩;rw[hu]at cu hu1;have HL:=hid (hat.last hDl rfl hl hu hu1);have HSB:=hid (fun w1=>sub32_any u p b w1 hu1 hp1 hb1);clear hu hat hxd hxb hxl
  by_cases hbor:u<p+b
  . rw[if_pos hbor]at HSB HL;clear hbor;obtain⟨x,hx⟩:∃x,(u+4294967296-p-b)%4294967296=x:=⟨_,rfl⟩;rw[hx]at HSB HL;clear hx;go_upto_region 14 with(go_at_call 150;refine(HSB.out _).mono ?_;clear HSB;rintro e w2 ⟨rfl,rfl⟩);obtain⟨⟨xs',g1,g2,g3,g4⟩,g5⟩:=HL.out;generalize W1.setCell ⟨D,A.length+vs.length,none⟩ (.int .u32 (x:Int))=W2 at g1 g5⊢;have HX4:=hid g4;have HX3:=hid g3;have hvs2:=arr_other HE.out g5 HNE.out;have hat1:BackAt w D A xs' C vs 0 0 W2:=⟨⟨xs',g1,rfl,g3,rfl,by simp[val]⟩,g5,by omega⟩;have hxl':xs'.length=vs.length+1:=by omega
    clear cu hfr hvs g1 g3 g4 g5 hwin HL hvs2;go_wp2_with fail;go_loopw [11,64] (fun cv iv wr=> ∃i c:Nat,i<=vs.length/\iv=.int .i64 (i:Int)/\cv=.int .u32 (c:Int)/\BackAt w D A xs' C vs i c wr) (fun _ iv _=>vs.length-(intOf iv).toNat)
    case atStart=>exact⟨0,0,Nat.zero_le _,rfl,rfl,hat1⟩
    clear hat1;obtain⟨i,c,hi,rfl,rfl,hat⟩:=hrel;generalize wr=W3 at hat⊢;have hc1:=hat.c1;obtain⟨ys,hwin,hyl,hyb,hyd,_⟩:=hat.arr;have hvs:=arr_other HE.out hat.old HNE.out;have hfr:=hwin.free;have hDl1:=hwin.lt
    by_cases hlt:i<vs.length
    . have hiy:i<ys.length:=by omega
      have hix:i<xs'.length:=by omega
      have cu:=hwin.cell hiy;rw[(drop_at hyd hiy hix).1]at cu;have cv:=hvs.cell i hlt;have hu1:xs'[i]<=4294967295:=by have:=HX3.out _ (List.getElem_mem hix);rw[b32]at this;omega
      have hv1:vs[i]<=4294967295:=by have:=HVB.out _ (List.getElem_mem hlt);rw[b32]at this;omega
      obtain⟨u2,hu⟩:∃u,xs'[i]=u:=⟨_,rfl⟩;obtain⟨v,hv⟩:∃v,vs[i]=v:=⟨_,rfl⟩;rw[hu]at cu hu1;rw[hv]at cv hv1;have HS:=hid (fun w' (hb:Below W3.heap.size W3 w')=>hat.step hb hDl hlt hxl' hu hv hu1 hv1);have hvl:=hvs.lt;have HAD:=hid (fun w1=>add32_any u2 v c w1 hu1 hv1 hc1);have HW:=hid hwin;clear hu hv hat hyd hyb hyl;obtain⟨s1,hs1⟩:∃s1,(u2+v+c)%4294967296=s1:=⟨_,rfl⟩;obtain⟨s2,hs2⟩:∃s2,(u2+v+c)/4294967296=s2:=⟨_,rfl⟩;rw[hs1,hs2]at HS HAD;clear hs1 hs2;have hi1:(i:Int)<(vs.length:Int)+1:=by omega
      have hi2:(i:Int)<(vs.length:Int):=by omega
      go_upto_region 18 with(fail);refine wp_region_staged (fun w'=>Below W3.heap.size W3 w') [0,0,0,0,0,1,0,0,0,1,0,1,0,0,0,0,2,0] (by kernel_rfl) (by kernel_rfl) (by kernel_rfl) (by exact(Below.refl _ _).drew) ?_
      iterate 5 (refine zs0 ?_)
      refine zs2 ?_
      iterate 3 (refine zs0 ?_)
      refine zs2 ?_;refine zs0 ?_;apply lexH rfl
      . intro w' hw';go_simp;(try go_bits);refine(HAD.out _).mono ?_;rintro e w5 ⟨rfl,rfl⟩;exact⟨_,rfl,rfl,hw'⟩
      refine zs4 ?_
      iterate 4 (refine zs0 ?_)
      apply lexS (fun w'=>BackAt w D A xs' C vs (i+1) s2 w') rfl
      . intro w' hw';have hwin':Win w' D A ys C:=Arr.below HW.out hw';have c0:=hwin'.cell hiy;have f0:=hwin'.free;go_simp;exact⟨rfl,HS.out w' hw'⟩
      simp only[Act.put];refine zs0 ?_;refine lexEnd (fun W5 hw5=>?_);go_wp2;go_roundw
      case rel=>exact⟨i+1,s2,by omega,by go_num,rfl,hw5⟩
      case measure=>simp[intOf];omega
    obtain rfl:i=vs.length:=by omega
    have hiy:vs.length<ys.length:=by omega
    have hix:vs.length<xs'.length:=by omega
    have cu:=hwin.cell hiy;rw[(drop_at hyd hiy hix).1]at cu;have hu1:xs'[vs.length]<=4294967295:=by have:=HX3.out _ (List.getElem_mem hix);rw[b32]at this;omega
    obtain⟨u2,hu⟩:∃u,xs'[vs.length]=u:=⟨_,rfl⟩;rw[hu]at cu hu1;have HLL:=hid (hat.last hDl rfl hxl' hu);clear hu hat hyd hyb hyl;have e2:((u2:Int)+(c:Int))%4294967296=(((u2+c)%4294967296:Nat):Int):=by omega
    obtain⟨s1,hs1⟩:∃s1,(u2+c)%4294967296=s1:=⟨_,rfl⟩;rw[hs1]at e2 HLL;obtain⟨ys',k1,k2,k3,k4,k5⟩:=HLL.out;have hg4:=HX4.out;rw[HUE.out,HVE.out]at hg4;rw[HVE.out]at k4;have hX:=val_lt b32_2 HX3.out;have hY:=val_lt b32_2 k3;rw[k2]at hY;have hlen:us.length=xs'.length:=by omega
    rw[hlen]at hg4
    have g6:=red_back (c:=(u2+c)/4294967296) hg4 hX hY (by
      have h5:=HVL.out;rw[hxl',Nat.pow_succ];refine Nat.le_trans (Nat.le_of_lt h5) ?_;exact Nat.le_mul_of_pos_right _ (by decide)) k4 HQ2.out HV.out
    have HG:=hid g6;have HK:=hid k1;have HK2:=hid k2;have HK3:=hid k3;have HK5:=hid k5;have hq0:1<=q:=by rw[g6.1];exact Nat.le_add_left 1 _
    clear hs1 HLL k1 k2 k3 k4 k5 g6 hg4 hX hY hlen;go_upto_region 21 with(fail);go_wp2;go_ret;refine⟨?_,⟨ys',by rw[HK2.out];omega,HK3.out,HG.out.2,HK.out⟩,HK5.out⟩;have hqe:=HG.out.1
    show Ending.returned (Value.int .u32 ((q:Int)-1))=Ending.returned (.int .u32 ((U/V:Nat):Int))
    rw[hqe]
    congr 2
    omega
  rw[if_neg hbor]at HSB HL;clear hbor;obtain⟨x,hx⟩:∃x,(u+4294967296-p-b)%4294967296=x:=⟨_,rfl⟩;rw[hx]at HSB HL;clear hx;go_wp2_with (go_at_call 150;refine(HSB.out _).mono ?_;clear HSB;rintro e w2 ⟨rfl,rfl⟩);go_ret;obtain⟨⟨ys,g1,g2,g3,g4⟩,g5⟩:=HL.out;rw[HUE.out,HVE.out]at g4;have g6:=red_done (T:=B32^us.length) g4 HQ1.out HV.out;exact⟨by rw[<-g6.1];rfl,⟨ys,g2,g3,g6.2,g1⟩,g5⟩
theorem two_pow_32{s:Nat}(hs:s<=32):(2^s)∣B32:=⟨2^(32-s),by rw[<-Nat.pow_add,show s+(32-s)=32 by omega];rfl⟩
structure ShlAt(W0:World)(D:Nat)(ds:List Nat)(S L k low:Nat)(wr:World):Prop where
  arr:∃xs,Arr wr D xs/\xs.length=L/\(∀x∈xs,x<B32)/\val B32 (xs.take k)+B32^k*low=val B32 (ds.take k)*S
  old:Below D W0 wr
  lo:low<S
theorem ShlAt.step{W0 wr:World}{D:Nat}{ds:List Nat}{s L k low x:Nat}(h:ShlAt W0 D ds (2^s) L k low wr)(hs:s<=32)(hk:k<ds.length)(hL:ds.length<=L)(hx:ds[k]=x)(hx1:x<=4294967295):
    ShlAt W0 D ds (2^s) L (k+1) (x*2^s/4294967296) (wr.setCell ⟨D,k,none⟩ (.int .u32 ((x*2^s%4294967296+low:Nat):Int))):=by
  obtain⟨⟨xs,h1,h2,h3,h4⟩,h5,h6⟩:=h;have hp:0<2^s:=Nat.pow_pos (by decide);obtain⟨s1,s2,s3⟩:=shl_step (B:=B32) (S:=2^s) (x:=x) (low:=low) hp (two_pow_32 hs) (by decide) (by rw[b32];omega) h6;rw[b32]at s1 s2 s3;refine⟨⟨_,h1.store _ _,by simpa using h2,all_set h3 (by rw[b32];exact s1),?_⟩,h5.setCell (p:=⟨D,k,none⟩) (Nat.le_refl _) _,s2⟩;rw[val_take_set (by omega),val_take_succ hk,hx,Nat.pow_succ,Nat.mul_assoc];have hb:=b32;generalize 2^s=S at*;generalize B32^k=P at*;have e:P*(x*S%4294967296+low)+P*(B32*(x*S/4294967296))=P*(x*S+low):=by rw[hb, <-Nat.mul_add,s3]
  rw[Nat.add_mul,Nat.mul_assoc P x S];rw[Nat.mul_add P (x*S)]at e;omega
theorem u32_or_shl(x s low:Nat)(hs:s<=31)(_hx:x<=4294967295)(hl:low<2^s):bits BinOp.or IntKind.u32 ((x:Int)*((2^s:Nat):Int)%4294967296) (low:Int)=((x*2^s%4294967296+low:Nat):Int):=by
  have e1:(x:Int)*((2^s:Nat):Int)%4294967296=((x*2^s%4294967296:Nat):Int):=by
    rw[<-Int.natCast_mul];rfl
  have hlt:2^s<=2^31:=Nat.pow_le_pow_right (by decide) hs;rw[e1,u32_or_nat _ _ (by omega) (by have:2^31=2147483648:=rfl;omega)]
  have e2:x*2^s%4294967296=2^s*(x%2^(32-s)):=by
    rw[show(4294967296:Nat)=2^s*2^(32-s) by rw[<-Nat.pow_add,show s+(32-s)=32 by omega],Nat.mul_comm x,Nat.mul_mod_mul_left]
  rw[e2, <-Nat.two_pow_add_eq_or_of_lt hl]
set_option maxRecDepth 100000 in
set_option maxHeartbeats 2000000 in
theorem shl_any(P:Option Addr)(c s L:Nat)(ds:List Nat)(w:World)(hd:DigP w P ds)(h1:∀d∈ds,d<B32)(hs:s<=31)(hl:ds.length<=L)(hL:L<=1000000)(hL1:L<=ds.length+1)(hfit:L=ds.length->val B32 ds*2^s<B32^L):
    Calls Tryz.prog 163 #[.slice P ds.length c,.int .i64 (s:Int),.int .i64 (L:Int)] w fun e w'=> ∃D xs,e=.returned (.slice (some ⟨D,0,none⟩) L L)/\w.heap.size<=D/\Arr w' D xs/\xs.length=L/\(∀x∈xs,x<B32)/\val B32 xs=val B32 ds*2^s/\Below w.heap.size w w':=by
  obtain⟨i0,hi,hz0,hz1,hz2⟩:=info_parts infoU;have H1:=hid h1;have HD:=hid hd;have HF:=hid hfit;have HL1:=hid hL1;have hp:0<2^s:=Nat.pow_pos (by decide);clear h1 hd hfit hL1;go_enter Tryz.func163,Tryz.ntmps163;go_upto_region 2 with(at_make;go_loud (refine wpList_make_full _ rfl _ _ _ rfl w.heap.size 132 i0 _ 1 Tryz.underlying66 hi hz0 hz1 _ _ _ _ L rfl rfl (by simp) (by simp) (by rw[hz2];omega) (by unfold maxLen;omega) (Nat.le_refl _) ?_;intro w2 hown hgr;have hb2:Below w.heap.size w w2:=(Below.refl _ w).grown hgr (Nat.le_refl _) (by simp);have hA:=arr_made hown;clear hown hgr));have hat0:ShlAt w w.heap.size ds (2^s) L 0 0 w2:=⟨⟨_,hA,by simp,fun x hx=>by rw[List.eq_of_mem_replicate hx,b32];omega,by simp[val]⟩,hb2,hp⟩;clear hA hb2;go_wp2_with fail;go_loopw [8,15] (fun lv iv wr=> ∃k low:Nat,k<=ds.length/\iv=.int .i64 (k:Int)/\lv=.int .u32 (low:Int)/\ShlAt w w.heap.size ds (2^s) L k low wr) (fun _ iv _=>ds.length-(intOf iv).toNat)
  case atStart=>exact⟨0,0,Nat.zero_le _,rfl,rfl,hat0⟩
  clear hat0;obtain⟨k,low,hk,rfl,rfl,hat⟩:=hrel;generalize wr=W1 at hat⊢;have hold:=hat.old;have hlo:=hat.lo;obtain⟨xs,harr,hxl,hxb,hxv⟩:=hat.arr;have hfr:=harr.free;have hDl:=harr.lt
  by_cases hlt:k<ds.length
  . obtain⟨g,rfl,hg⟩:=HD.out.at hlt;have g0:=(hg.below hold).at0 k hlt;have hgl:=Nat.lt_of_lt_of_le hg.lt hold.size;have hx1:ds[k]<=4294967295:=by have:=H1.out _ (List.getElem_mem hlt);rw[b32]at this;omega
    obtain⟨x,hx⟩:∃x,ds[k]=x:=⟨_,rfl⟩;rw[hx]at g0 hx1;have HS:=hid (hat.step (by omega) hlt hl hx hx1);have e2:=u32_or_shl x s low hs hx1 hlo;have c0:=harr.cell k (by omega);obtain⟨z,hz⟩:∃z,xs[k]'(by omega)=z:=⟨_,rfl⟩;rw[hz]at c0;clear hz;have e3:(2:Int)^s=((2^s:Nat):Int):=by simp
    obtain⟨S,hS⟩:∃S,2^s=S:=⟨_,rfl⟩;have HSE:=hid hS;have hS31:S<=2147483648:=by rw[<-hS];exact Nat.pow_le_pow_right (n:=2) (by decide) hs
    rw[hS]at HS e2 e3 hlo hp;have hxs:x*S<=4294967295*2147483648:=Nat.mul_le_mul hx1 hS31
    have hm1:(x:Int)*(S:Int)<=9223372034707292160:=by
      have e1:((x*S:Nat):Int)=(x:Int)*(S:Int):=Int.natCast_mul x S;omega
    have hm0:0<=(x:Int)*(S:Int):=Int.mul_nonneg (by omega) (by omega);obtain⟨T,hT⟩:∃T,x*S%4294967296+low=T:=⟨_,rfl⟩;rw[hT]at e2 HS;have hlb1:(x:Int)*(S:Int)/4294967296<=2147483648:=by omega
    have hlb0:0<=(x:Int)*(S:Int)/4294967296:=by omega
    clear hx hS hat harr hxl hxb hxv hT hxs;go_upto_region 7 with(fail);clear e2;go_wp2;go_roundw
    case rel=>
      refine⟨k+1,x*S/4294967296,by omega,by go_num,?_,by rw[HSE.out];exact HS.out⟩
      show Value.int .u32 _=Value.int .u32 _
      congr 1
    case measure=>simp[intOf];omega
  obtain rfl:k=ds.length:=by omega
  rw[List.take_length]at hxv
  by_cases hLL:ds.length<L
  . have hLi:(ds.length:Int)<(L:Int):=by omega
    have hst:=harr.store ds.length low;have c0:=harr.cell ds.length (by omega);obtain⟨z,hz⟩:∃z,xs[ds.length]'(by omega)=z:=⟨_,rfl⟩;rw[hz]at c0
    have HVX:=hid (show val B32 (xs.set ds.length low)=val B32 ds*2^s by
      have h4:=val_take_set (B:=B32) (xs:=xs) (k:=ds.length) (v:=low) (by omega);rw[List.take_of_length_le (by rw[List.length_set];have:=HL1.out;omega)]at h4;rw[h4,hxv])
    have HLB:=hid (show low<B32 by rw[b32];have:2^s<=2^31:=Nat.pow_le_pow_right (by decide) hs;omega);clear hz hat hxv;go_wp2;go_ret;exact⟨_,_,rfl,Nat.le_refl _,hst,by rw[List.length_set];exact hxl,all_set hxb HLB.out,HVX.out,hold.setCell (p:=⟨w.heap.size,ds.length,none⟩) (Nat.le_refl _) _⟩
  have hLe:L=ds.length:=by omega
  have hLi:¬(ds.length:Int)<(L:Int):=by omega
  have HVX:=hid (show val B32 xs=val B32 ds*2^s by
    have h5:=HF.out hLe;rw[List.take_of_length_le (by omega)]at hxv;rw[hLe]at h5
    rcases Nat.eq_zero_or_pos low with h0|h0
    . subst h0;omega
    have:B32^ds.length*1<=B32^ds.length*low:=Nat.mul_le_mul_left _ h0;omega)
  clear hxv hat hLe;go_wp2;go_ret
  first
    |exact⟨_,rfl,Nat.le_refl _,xs,harr,hxl,hxb,HVX.out,hold⟩
    |exact⟨_,xs,rfl,Nat.le_refl _,harr,hxl,hxb,HVX.out,hold⟩
structure ShrAt(W0:World)(D:Nat)(ds:List Nat)(S k:Nat)(wr:World):Prop where
  arr:∃xs,Arr wr D xs/\xs.length=ds.length/\(∀x∈xs,x<B32)/\val B32 (xs.drop k)=val B32 (ds.drop k)/S
  old:Below D W0 wr
theorem ShrAt.step{W0 wr:World}{D:Nat}{ds:List Nat}{s j x h:Nat}(ha:ShrAt W0 D ds (2^s) (j+1) wr)(hs:s<=32)(hj:j<ds.length)(hx:ds[j]=x)(hx1:x<=4294967295)(hh:h=val B32 (ds.drop (j+1))%B32):
    ShrAt W0 D ds (2^s) j (wr.setCell ⟨D,j,none⟩ (.int .u32 (((h*4294967296+x)/2^s%4294967296:Nat):Int))):=by
  obtain⟨⟨xs,h1,h2,h3,h4⟩,h5⟩:=ha;refine⟨⟨_,h1.store _ _,by simpa using h2,all_set h3 (by rw[b32];omega),?_⟩,h5.setCell (p:=⟨D,j,none⟩) (Nat.le_refl _) _⟩;rw[val_drop_set (by omega),val_drop hj,hx,h4,hh];have:=shr_step (B:=B32) (S:=2^s) (d:=x) (D:=val B32 (ds.drop (j+1))) (Nat.pow_pos (by decide)) (two_pow_32 hs) (by decide) (by rw[b32];omega);rw[this,b32]
theorem high_next{ds:List Nat}{j:Nat}(hj:j<ds.length)(h1:∀d∈ds,d<B32):ds[j]=val B32 (ds.drop j)%B32:=by
  rw[val_drop hj,Nat.add_mul_mod_self_left,Nat.mod_eq_of_lt (h1 _ (List.getElem_mem hj))]
set_option maxRecDepth 100000 in
set_option maxHeartbeats 2000000 in
theorem shr_any(P:Option Addr)(c s:Nat)(ds:List Nat)(w:World)(hd:DigP w P ds)(h1:∀d∈ds,d<B32)(hs:s<=31)(hL:ds.length<=1000000):
    Calls Tryz.prog 165 #[.slice P ds.length c,.int .i64 (s:Int)] w fun e w'=> ∃D xs,e=.returned (.slice (some ⟨D,0,none⟩) ds.length ds.length)/\Arr w' D xs/\xs.length=ds.length/\(∀x∈xs,x<B32)/\val B32 xs=val B32 ds/2^s/\Below w.heap.size w w':=by
  obtain⟨i0,hi,hz0,hz1,hz2⟩:=info_parts infoU;have H1:=hid h1;have HD:=hid hd;clear h1 hd;go_enter Tryz.func165,Tryz.ntmps165;go_upto_region 2 with(at_make;go_loud (refine wpList_make_full _ rfl _ _ _ rfl w.heap.size 132 i0 _ 1 Tryz.underlying66 hi hz0 hz1 _ _ _ _ ds.length rfl rfl (by simp) (by simp) (by rw[hz2];omega) (by unfold maxLen;omega) (Nat.le_refl _) ?_;intro w2 hown hgr;have hb2:Below w.heap.size w w2:=(Below.refl _ w).grown hgr (Nat.le_refl _) (by simp);have hA:=arr_made hown;clear hown hgr));have hat0:ShrAt w w.heap.size ds (2^s) ds.length w2:=⟨⟨_,hA,by simp,fun x hx=>by rw[List.eq_of_mem_replicate hx,b32];omega,by simp[val]⟩,hb2⟩;clear hA hb2;go_wp2_with fail;go_loopw [6,7] (fun hv iv wr=> ∃k h:Nat,k<=ds.length/\iv=.int .i64 ((k:Int)-1)/\hv=.int .u32 (h:Int)/\h<=4294967295/\Hid (h=val B32 (ds.drop k)%B32)/\ShrAt w w.heap.size ds (2^s) k wr) (fun _ iv _=>(intOf iv+1).toNat)
  case atStart=>exact⟨ds.length,0,Nat.le_refl _,rfl,rfl,by omega,hid (by rw[List.drop_length];rfl),hat0⟩
  clear hat0;obtain⟨k,h,hk,rfl,rfl,hh1,HH,hat⟩:=hrel;generalize wr=W1 at hat⊢;have hold:=hat.old
  by_cases hk0:k=0
  . subst hk0;obtain⟨xs,harr,hxl,hxb,hxv⟩:=hat.arr;rw[List.drop_zero,List.drop_zero]at hxv;clear hat;go_wp2;go_ret;exact⟨_,xs,rfl,harr,hxl,hxb,hxv,hold⟩
  obtain⟨j,rfl⟩:∃j,k=j+1:=⟨k-1,by omega⟩;have hj:j<ds.length:=by omega
  have ei:(((j+1:Nat):Int)-1)=(j:Int):=by omega
  rw[ei];clear ei;obtain⟨g,rfl,hg⟩:=HD.out.at hj;have g0:=(hg.below hold).at0 j hj;have hgl:=Nat.lt_of_lt_of_le hg.lt hold.size;have hne:g≠w.heap.size:=by have:=hg.lt;omega
  have hx1:ds[j]<=4294967295:=by have:=H1.out _ (List.getElem_mem hj);rw[b32]at this;omega
  have HN:=hid (high_next hj H1.out);obtain⟨x,hx⟩:∃x,ds[j]=x:=⟨_,rfl⟩;rw[hx]at g0 hx1 HN;have HS:=hid (hat.step (by omega) hj hx hx1 HH.out);obtain⟨xs,harr,hxl,_,_⟩:=hat.arr;have c0:=harr.cell j (by omega);obtain⟨z,hz⟩:∃z,xs[j]'(by omega)=z:=⟨_,rfl⟩;rw[hz]at c0;clear hz;have hfr:=harr.free;have hDl:=harr.lt;have q0:0<=(j:Int):=by omega
  have e2:=div_or h x hh1 hx1;have e3:(2:Int)^s=((2^s:Nat):Int):=by simp
  obtain⟨S,hS⟩:∃S,2^s=S:=⟨_,rfl⟩;have HSE:=hid hS;have hp:0<2^s:=Nat.pow_pos (by decide);rw[hS]at HS e3 hp;obtain⟨t,ht⟩:∃t,h*4294967296+x=t:=⟨_,rfl⟩;rw[ht]at HS e2;clear hx hS hat harr hxl ht;go_upto_region 7 with(fail);clear e2;go_upto_region 8 with(fail)
  obtain⟨W6,hW6,hS6,g6,hgl6⟩:∃W6,W6=W1.setCell ⟨w.heap.size,j,none⟩ (.int .u32 ((t:Int)/(S:Int)%4294967296))/\ShrAt w w.heap.size ds S j W6/\W6.cell? ⟨g,j,none⟩=some (.int .u32 (x:Int))/\g<W6.heap.size:=
    ⟨_,rfl,HS.out,(World.cell?_of_block (w:=W1) (Below.heap_setCell _ _ _ _ hne)).trans g0,by simpa[World.setCell]using hgl⟩
  rw[<-hW6];clear hW6 g0 hgl c0 hfr hDl;go_wp2;go_roundw
  case rel=>exact⟨j,x,by omega,by go_num,rfl,hx1,HN,by rw[HSE.out];exact hS6⟩
  case measure=>simp[intOf]
theorem hasCell{base R:Nat}{w:World}{c:Value}{t:TypeId}(h:Has base R (.cells #[c] t) w):w.cell? ⟨R,0,none⟩=some c:=cell_box1 h.2
theorem hasFree{base R:Nat}{w:World}{c:Value}{t:TypeId}(h:Has base R (.cells #[c] t) w):∀o,w.frozen? ⟨R,o,none⟩=false:=free_box1 h.2
theorem lt_two_bits:∀n:Nat,n<2^bitsN n:=by
  intro n
  induction n using Nat.strongRecOn with
  | ind n ih=>
    by_cases h:n=0
    . subst h;exact Nat.pow_pos (by decide)
    rw[bitsN_pos h,Nat.pow_succ];have:=ih (n/2) (by omega);omega
theorem bits32_le:∀(k n:Nat),n<2^k->bitsN n<=k
  | 0,n,h=>by
    have:n=0:=by simpa using h
    subst this;rw[bitsN_zero];exact Nat.le_refl _
  | k+1,n,h=>by
    by_cases h0:n=0
    . subst h0;rw[bitsN_zero];omega
    rw[bitsN_pos h0];have:=bits32_le k (n/2) (by rw[Nat.pow_succ]at h;omega);omega
theorem bitLen_eq{x:Nat}(h:x<=4294967295):Lib.bitLen x=bitsN x:=bitLen_bits 64 x (by omega)
theorem shift_fits{es:List Nat}{n1:Nat}(hl:es.length=n1+1)(h1:∀d∈es,d<B32)(h0:es[n1]≠0):
    ∃s:Nat,32-((Lib.bitLen es[n1]:Nat):Int)=(s:Int)/\s<=31/\val B32 es*2^s<B32^(n1+1):=by
  have ht:=h1 _ (List.getElem_mem (show n1<es.length by omega));have hb:Lib.bitLen es[n1]=bitsN es[n1]:=bitLen_eq (by rw[b32]at ht;omega);have hle:=bits32_le 32 es[n1] ht;have hge:1<=bitsN es[n1]:=by rw[bitsN_pos h0];omega
  refine⟨32-bitsN es[n1],by rw[hb];omega,by omega,?_⟩;have e:=val_top (B:=B32) hl;have hlow:=take_lt b32_2 h1 (k:=n1) (by omega);have h2:=lt_two_bits es[n1]
  have h3:val B32 es<B32^n1*2^bitsN es[n1]:=by
    have:B32^n1*(es[n1]+1)<=B32^n1*2^bitsN es[n1]:=Nat.mul_le_mul_left _ h2;rw[Nat.mul_add]at this;omega
  have h4:val B32 es*2^(32-bitsN es[n1])<B32^n1*2^bitsN es[n1]*2^(32-bitsN es[n1]):=Nat.mul_lt_mul_of_pos_right h3 (Nat.pow_pos (by decide));rw[Nat.mul_assoc, <-Nat.pow_add,show bitsN es[n1]+(32-bitsN es[n1])=32 by omega]at h4;exact h4
theorem top_start{ys:List Nat}{A S V m n k:Nat}(hA:A<B32^m)(hv:B32^(n-1)*S<=V)(hS:0<S)(hk:k+n=m+1)(hn:1<=n)(hl:ys.length=m+1)(hy:val B32 ys=A*S):val B32 (ys.drop k)<V:=by
  have h1:=val_take_drop (B:=B32) ys k (by omega);have h2:A*S<B32^m*S:=Nat.mul_lt_mul_of_pos_right hA hS;have h3:B32^k*(B32^(n-1)*S)<=B32^k*V:=Nat.mul_le_mul_left _ hv;rw[<-Nat.mul_assoc, <-Nat.pow_add,show k+(n-1)=m by omega]at h3;have h4:B32^k*val B32 (ys.drop k)<B32^k*V:=by omega
  exact Nat.lt_of_mul_lt_mul_left h4
structure LongAt(w:World)(D E G m n V AS:Nat)(vs:List Nat)(k:Nat)(wr:World):Prop where
  st:∃ys qs,Arr wr D ys/\ys.length=m+1/\(∀y∈ys,y<B32)/\Arr wr G qs/\qs.length=m-n+1/\(∀q∈qs,q<B32)/\val B32 (ys.drop k)<V/\val B32 (qs.drop k)*(B32^k*V)+val B32 ys=AS
  v:Arr wr E vs
  b4:wr.heap[w.heap.size]?=some (.cells #[.slice none 0 0] 68)
  b5:wr.heap[w.heap.size+1]?=some (.cells #[.slice none 0 0] 68)
  old:Below w.heap.size w wr
theorem LongAt.next{w wr w2:World}{D E G m n V AS:Nat}{vs ys qs us':List Nat}{j:Nat}(h:LongAt w D E G m n V AS vs (j+1) wr)(hd:D≠E/\D≠G/\E≠G)(hb:w.heap.size+1<D/\w.heap.size+1<G)(hj:j+n<=m)(hys:ys.length=m+1)(hyb:∀y∈ys,y<B32)(hqs:Arr wr G qs)(hql:qs.length=m-n+1)(hqb:∀q∈qs,q<B32)(hlt:val B32 (ys.drop (j+1))<V)(hsum:val B32 (qs.drop (j+1))*(B32^(j+1)*V)+val B32 ys=AS)(hV:V<B32^n)(hV0:0<V)
    (hu:us'.length=n+1) (hub:∀u∈us',u<B32) (hr:val B32 us'=val B32 ((ys.drop j).take (n+1))%V) (hw:Win w2 D (ys.take j) us' (ys.drop (j+n+1))) (hg:wr.grownBy w2 (some D)):
    LongAt w D E G m n V AS vs j (w2.setCell ⟨G,j,none⟩ (.int .u32 ((val B32 ((ys.drop j).take (n+1))/V:Nat):Int))):=by
  obtain⟨s1,s2,s3,s4,s5,s6⟩:=long_split b32_2 (ys:=ys) (j:=j) (n:=n) (V:=V) (by omega) hyb hlt hV;obtain⟨n1,n2⟩:=long_next (B:=B32) s1 (by omega) s3 (by omega) hr hsum;obtain⟨_,g2,g3,g4,g5⟩:=hg;have hG2:Arr w2 G qs:=arr_other hqs ⟨‹_›,g2,g3,g4,g5⟩ (fun e=>hd.2.1 e.symm);have hE2:Arr w2 E vs:=arr_other h.v ⟨‹_›,g2,g3,g4,g5⟩ (fun e=>hd.1 e.symm);have l4:=(Array.getElem?_eq_some_iff.1 h.b4).1;have l5:=(Array.getElem?_eq_some_iff.1 h.b5).1;refine⟨⟨_,_,?_,?_,?_,hG2.store j _,by simpa using hql,all_set hqb ?_,?_,n1⟩,?_,?_,?_,?_⟩
  . unfold Arr;rw[setCell_far _ hd.2.1];exact hw
  . rw[List.length_append,List.length_append,List.length_take,List.length_drop];omega
  . intro y hy
    rcases List.mem_append.1 hy with hy|hy
    . rcases List.mem_append.1 hy with hy|hy
      . exact hyb y (List.mem_of_mem_take hy)
      exact hub y hy
    exact hyb y (List.mem_of_mem_drop hy)
  . rw[Nat.div_lt_iff_lt_mul hV0];exact s5
  . rw[n2];exact Nat.mod_lt _ hV0
  . unfold Arr;rw[setCell_far _ hd.2.2];exact hE2
  . rw[setCell_far _ (by omega),g5 _ l4 (fun e=>by injection e with e;omega)];exact h.b4
  . rw[setCell_far _ (by omega),g5 _ l5 (fun e=>by injection e with e;omega)];exact h.b5
  refine Below.setCell (p:=⟨G,j,none⟩) ?_ (by show _<=G;omega) _;exact h.old.trans ((grown_below ⟨‹_›,g2,g3,g4,g5⟩ (by have:=Arr.lt hw;have h8:=h.old.size;obtain⟨ys0,_,h9,_⟩:=h.st;exact Nat.le_of_lt h9.lt)).mono (by omega))
set_option maxRecDepth 100000 in
set_option maxHeartbeats 8000000 in
theorem long_core(P Q:Option Addr)(c c':Nat)(ds es:List Nat)(w:World)(hd:DigP w P ds)(he:DigP w Q es)(h1:∀d∈ds,d<B32)(h2:∀d∈es,d<B32)(hn2:2<=es.length)(hle:es.length<=ds.length)(hl:ds.length<=100000)(ht:∀k (h:k<es.length),k+1=es.length->es[k]≠0):
    Calls Tryz.prog 152 #[.slice P ds.length c,.slice Q es.length c'] w fun e w'=> ∃x y,e=.returned (.tuple #[x,y])/\NatV w' x (val B32 ds/val B32 es)/\NatV w' y (val B32 ds%val B32 es)/\Below w.heap.size w w':=by
  obtain⟨i0,hi,hz0,hz1,hz2⟩:=info_parts infoU;obtain⟨n,hn⟩:∃n,es.length=n:=⟨_,rfl⟩;obtain⟨n1,hn1⟩:∃n1,n=n1+1:=⟨n-1,by omega⟩;obtain⟨n0,hn0⟩:∃n0,n=n0+2:=⟨n-2,by omega⟩;obtain⟨m,hm⟩:∃m,ds.length=m:=⟨_,rfl⟩;have htop:=ht n1 (by omega) (by omega);obtain⟨s,hs,hs31,hfit⟩:=shift_fits (es:=es) (n1:=n1) (by omega) h2 htop;obtain⟨g',rfl,he'⟩:=he.at (k:=n1) (by omega);have htlt:=h2 _ (List.getElem_mem (show n1<es.length by omega));have HLZ:=hid (fun(w1:World)=>Tryz.bits_LeadingZeros32 ((es[n1]'(by omega):Nat):Int) w1 (by omega) (by rw[b32]at htlt;omega));simp only[Int.toNat_natCast]at HLZ;rw[hs]at HLZ;have HSA:=hid (fun w1 (hb:Below w.heap.size w w1)=>shl_any P c s (m+1) ds w1 (hd.below hb) h1 hs31 (by omega) (by omega) (by omega) (fun h=>by omega));have HSB:=hid (fun w1 (hb:Below w.heap.size w w1)=>shl_any (some ⟨g',0,none⟩) c' s n es w1 (he.below hb) h2 hs31 (by omega) (by omega) (by omega) (fun h=>by rw[hn1];exact hfit));rw[hm]at HSA;rw[hn]at HSB;obtain⟨a,ha⟩:∃a,val B32 ds=a:=⟨_,rfl⟩;obtain⟨b,hb⟩:∃b,val B32 es=b:=⟨_,rfl⟩;have hal:a<B32^m:=by rw[<-ha, <-hm];exact val_lt b32_2 h1
  have hbl:B32^n1<=b:=by
    rw[<-hb,val_top (B:=B32) (show es.length=n1+1 by omega)];have:B32^n1*1<=B32^n1*es[n1]:=Nat.mul_le_mul_left _ (Nat.pos_of_ne_zero htop);omega
  have hbu:b*2^s<B32^n:=by rw[<-hb,hn1];exact hfit
  rw[ha]at HSA⊢;rw[hb]at HSB⊢;have hSp:0<2^s:=Nat.pow_pos (by decide);have he1:=he'.at0 n1 (by omega);have hgl:=he'.lt;obtain⟨tp,htp⟩:∃tp,es[n1]'(by omega)=tp:=⟨_,rfl⟩;rw[htp]at he1 HLZ;have hn1i:(n:Int)-1=(n1:Int):=by omega
  rw[hn,hm];have HN:=hid hn0;have HN1:=hid hn1;have hnm:n<=m:=by omega
  have hm1:m<=100000:=by omega
  have hnp:2<=n:=by omega
  have hn1n:(n1:Int)<(n:Int):=by omega
  have hn1p:0<=(n1:Int):=by omega
  obtain⟨kk,hkk⟩:∃kk,kk+n=m+1:=⟨m+1-n,by omega⟩;have hmn:(m:Int)-(n:Int)+1=(kk:Int):=by omega
  have HA:=hid (show True from trivial);clear hd he h1 h2 hn2 hle hl ht htop hs hfit he' htlt ha hb htp hn0 hn1 hn hm HA;go_enter Tryz.func152,Tryz.ntmps152;go_upto_region 1 with(fail);obtain⟨W1,hW1,hsz1,k4,k5,hWb⟩:=box2_head (.slice none 0 0) (.slice none 0 0) 68 68 w;rw[<-hW1];have he2:W1.cell? ⟨g',n1,none⟩=some (.int .u32 (tp:Int)):=(hWb.cell (p:=⟨g',n1,none⟩) hgl).trans he1;have hgl1:=Nat.lt_of_lt_of_le hgl hWb.size;clear hW1 he1;go_upto_region 2 with(go_at_call 162;refine(HLZ.out _).mono ?_;clear HLZ;rintro e w2 ⟨rfl,rfl⟩);clear he2 hgl1;go_upto_region 3 with(go_at_call 163;refine(HSA.out _ hWb).mono ?_;clear HSA;rintro e W2 ⟨D,ys,rfl,hDg,hD,hyl,hyb,hyv,hw2⟩;have hb2:=hWb.trans (hw2.mono hWb.size);have k42:=(hw2.block _ (by omega)).trans k4;have k52:=(hw2.block _ (by omega)).trans k5);clear k4 k5 hw2;have hDl:=hD.lt;go_upto_region 5 with(go_at_call 163;refine(HSB.out _ hb2).mono ?_;clear HSB;rintro e W3 ⟨E,vs,rfl,hEg,hE,hvl,hvb,hvv,hw3⟩;have hb3:=hb2.trans (hw3.mono hb2.size);have k43:=(hw3.block _ (by omega)).trans k42;have k53:=(hw3.block _ (by omega)).trans k52;have hD3:=hD.below hw3);clear k42 k52 hw3 hD hb2;have hEl:=hE.lt;have hEne:D≠E:=fun e=>by subst e;omega
  have hD54:w.heap.size+1<D:=by omega
  have hVl:B32^n1<=b*2^s:=Nat.le_trans hbl (Nat.le_mul_of_pos_right _ hSp)
  have hstart:∀ys:List Nat,ys.length=m+1->val B32 ys=a*2^s->val B32 (ys.drop kk)<b*2^s:=fun ys hl hv=>
    top_start hal (show B32^(n-1)*2^s<=b*2^s from Nat.mul_le_mul_right _ (by rw[HN1.out,Nat.add_sub_cancel];exact hbl)) hSp hkk (by omega) hl hv
  have hst:=hstart ys hyl hyv;have HFIN:=hid (fun(q r:Nat) (h:q*(b*2^s)+r=a*2^s) (hr:r<b*2^s)=>div_shifted hSp (show 0<b from Nat.lt_of_lt_of_le (Nat.pow_pos (by decide)) hbl) h hr);obtain⟨V,hV⟩:∃V,b*2^s=V:=⟨_,rfl⟩;obtain⟨AS,hAS⟩:∃AS,a*2^s=AS:=⟨_,rfl⟩;rw[hV]at hbu hvv hVl hst HFIN;rw[hAS]at hyv HFIN;have HAS:=hid hAS;have hV0:0<V:=Nat.lt_of_lt_of_le (Nat.pow_pos (by decide)) hVl
  have hv1p:∀h:n1<vs.length,0<vs[n1]:=fun _=>by
    have h3:=val_top (B:=B32) (show vs.length=n1+1 by omega);have h4:=take_lt b32_2 hvb (k:=n1) (by omega);rw[hvv]at h3;refine Nat.pos_of_ne_zero fun e=>?_
    rw[e]at h3;omega
  have HVB:=hid hvb;have HVV:=hid hvv;have HBU:=hid hbu;have HV0:=hid hV0;have HVP:=hid hv1p;have HSP:=hid hSp;clear hV hAS hal hbl hSp hstart hVl hvb hvv hbu hV0 hv1p;go_upto_region 6 with(at_make;go_loud (refine wpList_make_full _ rfl _ _ _ rfl W3.heap.size 132 i0 _ 1 Tryz.underlying66 hi hz0 hz1 _ _ _ _ kk rfl rfl (by simp) (by simp) (by rw[hz2];omega) (by unfold maxLen;omega) (Nat.le_refl _) ?_;intro w4 hown hgr;have hb34:Below W3.heap.size W3 w4:=(Below.refl _ W3).grown hgr (Nat.le_refl _) (by simp);have hG:=arr_made hown;clear hown hgr));have hs2:=hDl
  have hat0:LongAt w D E W3.heap.size m n V AS vs kk w4:=by
    have hs3:D<W3.heap.size:=hD3.lt;refine⟨⟨ys,_,hD3.below hb34,hyl,hyb,hG,by rw[List.length_replicate];omega,fun x hx=>by rw[List.eq_of_mem_replicate hx,b32];omega,hst,by rw[List.drop_of_length_le (by rw[List.length_replicate];exact Nat.le_refl _)];simp[val];exact hyv⟩,hE.below hb34,(hb34.block _ (by omega)).trans k43,(hb34.block _ (by omega)).trans k53,hb3.trans (hb34.mono hb3.size)⟩
  have hDG:D≠W3.heap.size:=fun e=>by have:=hD3.lt;omega
  have hEG:E≠W3.heap.size:=fun e=>by have:=hE.lt;omega
  have hG54:w.heap.size+1<W3.heap.size:=by omega
  clear hD3 hE hyl hyb hyv hG hst hb34 k43 k53 hs2 hDl hEl hDg hEg hb3;generalize W3.heap.size=G at hat0 hDG hEG hG54⊢;go_wp2_with fail;go_loopw [11] (fun iv wr=> ∃k:Nat,k<=kk/\iv=.int .i64 ((k:Int)-1)/\LongAt w D E G m n V AS vs k wr) (fun iv _=>(intOf iv+1).toNat)
  case atStart=>exact⟨kk,Nat.le_refl _,rfl,hat0⟩
  clear hat0;obtain⟨k,hk,rfl,hat⟩:=hrel;generalize wr=W5 at hat⊢
  by_cases hk0:k=0
  . subst hk0;obtain⟨ys,qs,hD,hyl,hyb,hGq,hql,hqb,hlt,hsum⟩:=hat.st;rw[List.drop_zero]at hlt hsum;rw[Nat.pow_zero,Nat.one_mul]at hsum;obtain⟨hq,hr⟩:=HFIN.out _ _ hsum hlt
    have htn:val B32 (ys.take n)=val B32 ys:=by
      have h3:=val_take_drop (B:=B32) ys n (by omega)
      rcases Nat.eq_zero_or_pos (val B32 (ys.drop n))with h4|h4
      . rw[h4]at h3;omega
      have h5:B32^n*1<=B32^n*val B32 (ys.drop n):=Nat.mul_le_mul_left _ h4;have h6:=HBU.out;omega
    have hqk:qs.length=kk:=by omega
    have hK:KS w [fun w'=>Arr w' G qs,fun w'=>Arr w' D ys,Has 0 w.heap.size (.cells #[.slice none 0 0] 68),Has 0 (w.heap.size+1) (.cells #[.slice none 0 0] 68)] W5:=
      ((((KS.start w).step hat.old).add fun w' hb=>Has.below ⟨Nat.zero_le _,hat.b5⟩ hb).add fun w' hb=>Has.below ⟨Nat.zero_le _,hat.b4⟩ hb).add (fun w' hb=>hD.below hb)|>.add fun w' hb=>hGq.below hb
    have HT1:=hid (fun w' (h:Arr w' G qs)=>trim_arr h hqb (by omega));rw[hq,hqk]at HT1;have HSR:=hid (fun w' (h:Arr w' D ys)=>shr_any (some ⟨D,0,none⟩) n s (ys.take n) w' (fun _=>⟨D,rfl,h.dig.take n⟩) (fun d hd=>hyb d (List.mem_of_mem_take hd)) hs31 (by rw[List.length_take];omega));rw[htn,hr,Nat.mul_div_cancel _ HSP.out,show(ys.take n).length=n by rw[List.length_take];omega]at HSR;clear hat hD hyl hyb hGq hql hqb hlt hsum hq hr htn hqk;have hnmi:(n:Int)<=(m:Int)+1:=by omega
    go_upto_region 16 with(fail);refine wp_region_float (w) _ [0,2,0,0,0,0,0,2,2,4,4] (by kernel_rfl) (by kernel_rfl) (by kernel_rfl) (by kernel_rfl) (KS.drew hK) ?_;refine zs3 ?_;apply lxE0 (α:=Option Addr × Nat) (fun q=>.agg #[.slice q.1 (digs B32 (a/b)).length q.2]) (fun q=>[fun w=>NatV w (.agg #[.slice q.1 (digs B32 (a/b)).length q.2]) (a/b)]) (wants0 rfl)
    . intro w' h0 hK;go_simp;(try go_bits);refine(HT1.out w' (hK.get (F:=fun w=>Arr w G qs) zsm)).mono ?_;rintro e w5 ⟨p5,c5,rfl,hx,hb⟩;exact⟨_,rfl,p5,c5,rfl,hb,fun w6 h6=>hx.below h6⟩
    rintro⟨p4,c4⟩
    refine zs4 ?_
    iterate 5 (refine zs3 ?_)
    apply lxE0 (α:=Nat) (fun q=>.slice (some ⟨q,0,none⟩) n n) (fun q=>[fun w=> ∃xs,Arr w q xs/\xs.length=n/\(∀x∈xs,x<B32)/\val B32 xs=a%b]) (wants0 rfl)
    . intro w' h0 hK;go_simp;(try go_bits);refine(HSR.out w' (hK.get (F:=fun w=>Arr w D ys) zsm)).mono ?_;rintro e w5 ⟨D5,xs5,rfl,hA5,hl5,hb5,hv5,hb⟩;exact⟨_,rfl,D5,rfl,hb,fun w6 h6=>⟨xs5,hA5.below h6,hl5,hb5,hv5⟩⟩
    rintro D6
    refine zs4 ?_;apply lxE0 (α:=Option Addr × Nat) (fun q=>.agg #[.slice q.1 (digs B32 (a%b)).length q.2]) (fun q=>[fun w=>NatV w (.agg #[.slice q.1 (digs B32 (a%b)).length q.2]) (a%b)]) (wants0 rfl)
    . intro w' h0 hK;go_simp;(try go_bits);obtain⟨xs6,hA6,hl6,hb6,hv6⟩:=hK.get (F:=fun w=> ∃xs,Arr w D6 xs/\xs.length=n/\(∀x∈xs,x<B32)/\val B32 xs=a%b) zsm;have ht6:=trim_arr hA6 hb6 (by omega);rw[hv6,hl6]at ht6;refine ht6.mono ?_;rintro e w5 ⟨p5,c5,rfl,hx,hb⟩;exact⟨_,rfl,p5,c5,rfl,hb,fun w6 h6=>hx.below h6⟩
    rintro⟨p6,c6⟩
    refine zs4 ?_;apply lxS0 [Has 0 w.heap.size (.cells #[.slice p4 (digs B32 (a/b)).length c4] 68),Has 0 (w.heap.size+1) (.cells #[.slice none 0 0] 68),fun w=>NatV w (.agg #[.slice p4 (digs B32 (a/b)).length c4]) (a/b),fun w=>NatV w (.agg #[.slice p6 (digs B32 (a%b)).length c6]) (a%b)] (wants0 rfl)
    . intro w' h0 hK;have h4:=hK.get (F:=Has 0 w.heap.size (.cells #[.slice none 0 0] 68)) zsm;have h5:=hK.get (F:=Has 0 (w.heap.size+1) (.cells #[.slice none 0 0] 68)) zsm;have c4':=hasCell h4;have f4':=hasFree h4;have hN4:=hK.get (F:=fun w=>NatV w (.agg #[.slice p4 (digs B32 (a/b)).length c4]) (a/b)) zsm;have hN6:=hK.get (F:=fun w=>NatV w (.agg #[.slice p6 (digs B32 (a%b)).length c6]) (a%b)) zsm;go_simp;refine⟨rfl,⟨hK.old.setCell (p:=⟨w.heap.size,0,none⟩) (Nat.le_refl _) _,fun _ h=>absurd h List.not_mem_nil⟩,hK.old.setCell (p:=⟨w.heap.size,0,none⟩) (Nat.le_refl _) _,fun F hF=>?_⟩;simp only[List.mem_cons,List.not_mem_nil,or_false]at hF;rcases hF with rfl|rfl|rfl|rfl;exact fun w' hb=>Has.below ⟨Nat.zero_le _,box_store h4.2 _⟩ hb;exact fun w' hb=>Has.below ⟨Nat.zero_le _,by rw[setCell_far _ (by omega)];exact h5.2⟩ hb;exact fun w' hb=>(hN4.store c4' _).below hb;exact fun w' hb=>(hN6.store c4' _).below hb
    simp only[Act.put];apply lxS0 [Has 0 w.heap.size (.cells #[.slice p4 (digs B32 (a/b)).length c4] 68),Has 0 (w.heap.size+1) (.cells #[.slice p6 (digs B32 (a%b)).length c6] 68),fun w=>NatV w (.agg #[.slice p4 (digs B32 (a/b)).length c4]) (a/b),fun w=>NatV w (.agg #[.slice p6 (digs B32 (a%b)).length c6]) (a%b)] (wants0 rfl)
    . intro w' h0 hK;have h4:=hK.get (F:=Has 0 w.heap.size (.cells #[.slice p4 (digs B32 (a/b)).length c4] 68)) zsm;have h5:=hK.get (F:=Has 0 (w.heap.size+1) (.cells #[.slice none 0 0] 68)) zsm;have c4':=hasCell h5;have f4':=hasFree h5;have hN4:=hK.get (F:=fun w=>NatV w (.agg #[.slice p4 (digs B32 (a/b)).length c4]) (a/b)) zsm;have hN6:=hK.get (F:=fun w=>NatV w (.agg #[.slice p6 (digs B32 (a%b)).length c6]) (a%b)) zsm;go_simp;refine⟨rfl,⟨hK.old.setCell (p:=⟨w.heap.size+1,0,none⟩) (by show _<=w.heap.size+1;omega) _,fun _ h=>absurd h List.not_mem_nil⟩,hK.old.setCell (p:=⟨w.heap.size+1,0,none⟩) (by show _<=w.heap.size+1;omega) _,fun F hF=>?_⟩;simp only[List.mem_cons,List.not_mem_nil,or_false]at hF;rcases hF with rfl|rfl|rfl|rfl;exact fun w' hb=>Has.below ⟨Nat.zero_le _,by rw[setCell_far _ (by omega)];exact h4.2⟩ hb;exact fun w' hb=>Has.below ⟨Nat.zero_le _,box_store h5.2 _⟩ hb;exact fun w' hb=>(hN4.store c4' _).below hb;exact fun w' hb=>(hN6.store c4' _).below hb
    simp only[Act.put];refine lxEnd (fun W9 hK9=>?_);have c2:=(hK9.get (F:=Has 0 w.heap.size (.cells #[.slice p4 (digs B32 (a/b)).length c4] 68)) zsm);replace c2:=hasCell c2;have c3:=(hK9.get (F:=Has 0 (w.heap.size+1) (.cells #[.slice p6 (digs B32 (a%b)).length c6] 68)) zsm);replace c3:=hasCell c3;have hx:=hK9.get (F:=fun w=>NatV w (.agg #[.slice p4 (digs B32 (a/b)).length c4]) (a/b)) zsm;have hy:=hK9.get (F:=fun w=>NatV w (.agg #[.slice p6 (digs B32 (a%b)).length c6]) (a%b)) zsm;go_wp2;exact bodyPost_ret (v:=.tuple #[.agg #[.slice p4 (digs B32 (a/b)).length c4],.agg #[.slice p6 (digs B32 (a%b)).length c6]]) (by simp[results,Tryz.results152,go_sem,c2,c3]) rfl ⟨_,_,rfl,hx,hy,hK9.old⟩
  obtain⟨j,rfl⟩:∃j,k=j+1:=⟨k-1,by omega⟩;have ei:(((j+1:Nat):Int)-1)=(j:Int):=by omega
  rw[ei];clear ei;obtain⟨ys,qs,hD,hyl,hyb,hGq,hql,hqb,hlt,hsum⟩:=hat.st;have hjn:j+n<=m:=by omega
  obtain⟨s1,s2,s3,s4,s5,s6⟩:=long_split b32_2 (ys:=ys) (j:=j) (n:=n) (V:=V) (by omega) hyb hlt HBU.out;have hE:=hat.v;have HNEXT:=hid (fun(w2:World) (us':List Nat) hu hub hr hw hg=>hat.next (w2:=w2) (us':=us') ⟨hEne,hDG,hEG⟩ ⟨hD54,hG54⟩ hjn hyl hyb hGq hql hqb hlt hsum HBU.out HV0.out hu hub hr hw hg);have hwin:Win W5 D (ys.take j) ((ys.drop j).take (n+1)) (ys.drop (j+n+1)):=by unfold Win;rw[<-s1];exact hD
  have htk:(ys.take j).length=j:=by rw[List.length_take];omega
  obtain⟨us,hus⟩:∃us,(ys.drop j).take (n+1)=us:=⟨_,rfl⟩;rw[hus]at s2 s4 s5 s6 hwin HNEXT;have hn0e:=HN.out;have hn1e:=HN1.out;have hG1:=guess_pack (k:=n0) b32_2 (vs:=vs) (us:=us) (by omega) (by omega) HVB.out s6 (by rw[HVV.out];exact s5) (by have:=HVP.out (by omega);simpa[show n1=n0+1 by omega]using this);rw[HVV.out]at hG1;obtain⟨U,hU⟩:∃U,val B32 us=U:=⟨_,rfl⟩;rw[hU]at hG1 HNEXT;have HUU:=hid hU;clear hU;have c2:=hwin.cell (i:=n0+2) (by omega);have c1:=hwin.cell (i:=n0+1) (by omega);have c0:=hwin.cell (i:=n0) (by omega);rw[htk]at c2 c1 c0;have d1:=hE.cell (n0+1) (by omega);have d0:=hE.cell n0 (by omega);have q1:=HVB.out _ (List.getElem_mem (show n0+1<vs.length by omega));have q0:=HVB.out _ (List.getElem_mem (show n0<vs.length by omega));have p2:=s6 _ (List.getElem_mem (show n0+2<us.length by omega));have p1:=s6 _ (List.getElem_mem (show n0+1<us.length by omega));have p0:=s6 _ (List.getElem_mem (show n0<us.length by omega));have hvp:vs[n0+1]'(by omega)≠0:=by have:=HVP.out (by omega);simp only[show n1=n0+1 by omega]at this;omega
  obtain⟨v1,hv1⟩:∃v1,vs[n0+1]'(by omega)=v1:=⟨_,rfl⟩;obtain⟨v2,hv2⟩:∃v2,vs[n0]'(by omega)=v2:=⟨_,rfl⟩;obtain⟨a2,ha2⟩:∃a2,us[n0+2]'(by omega)=a2:=⟨_,rfl⟩;obtain⟨a1,ha1⟩:∃a1,us[n0+1]'(by omega)=a1:=⟨_,rfl⟩;obtain⟨a0,ha0⟩:∃a0,us[n0]'(by omega)=a0:=⟨_,rfl⟩;rw[hv1]at d1 q1 hvp hG1;rw[hv2]at d0 q0 hG1;rw[ha2]at c2 p2 hG1;rw[ha1]at c1 p1 hG1;rw[ha0]at c0 p0 hG1;rw[b32]at q1 q0 p2 p1 p0 hG1;have e2:=div_or a2 a1 (by omega) (by omega);obtain⟨t,htt⟩:∃t,a2*4294967296+a1=t:=⟨_,rfl⟩;rw[htt]at e2 hG1;have htb:t<=18446744073709551615:=by omega
  obtain⟨i2,hi2⟩:∃i2,j+(n0+2)=i2:=⟨_,rfl⟩;obtain⟨i1,hi1⟩:∃i1,j+(n0+1)=i1:=⟨_,rfl⟩;obtain⟨i00,hi00⟩:∃i00,j+n0=i00:=⟨_,rfl⟩;obtain⟨m1,hm1'⟩:∃m1,n0+1=m1:=⟨_,rfl⟩;rw[hi2]at c2;rw[hi1]at c1;rw[hi00]at c0;rw[hm1']at d1;have x2:(j:Int)+(n:Int)=(i2:Int):=by omega
  have x1:(i2:Int)-1=(i1:Int):=by omega
  have x0:(i2:Int)-2=(i00:Int):=by omega
  have y1:(n:Int)-1=(m1:Int):=by omega
  have y0:(n:Int)-2=(n0:Int):=by omega
  have z2:(i2:Int)<(m:Int)+1:=by omega
  have z1:(i1:Int)<(m:Int)+1:=by omega
  have z0:(i00:Int)<(m:Int)+1:=by omega
  have w1':(m1:Int)<(n:Int):=by omega
  have w0':(n0:Int)<(n:Int):=by omega
  obtain⟨UV,hUV⟩:∃q,U/V=q:=⟨_,rfl⟩;have HFIRST:=hid hG1.first
  have HDEC:=hid hG1.dec;have HFINQ:=hid hG1.fin;have HTOP1:=hid hG1.top1;rw[hUV]at HFIRST HDEC HFINQ HNEXT;have HUV:=hid hUV;clear hUV;have hDl:=hwin.lt;have hEl:=hE.lt;have HWIN:=hid hwin;have HE:=hid hE;have HS6:=hid s6;have HS2:=hid s2;have HJ:=hid (show j<qs.length by omega);have HGQ:=hid hGq;have HOLD:=hid hat.old;have hsl:i2+1-j=n+1:=by omega
  have HTK:=hid htk;clear hat hD hyl hyb hGq hql hqb hlt hsum s1 s3 s4 s5 s6 s2 hwin hus hG1 hv1 hv2 ha2 ha1 ha0 htt hi2 hi1 hi00 hm1' hn0e hn1e hE htk hn1i hn1n hn1p;go_upto_region 9 with(fail);refine wp_region_staged (fun w'=>Below W5.heap.size W5 w') [0,0,0,0,0,1,0,0,0,0,0,0,0,0,1,0,0,0] (by kernel_rfl) (by kernel_rfl) (by kernel_rfl) (by exact(Below.refl _ _).drew) ?_
  iterate 5 (refine zs0 ?_)
  refine zs2 ?_
  iterate 8 (refine zs0 ?_)
  refine zs2 ?_
  iterate 3 (refine zs0 ?_)
  refine lexEnd (fun W6 hw6=>?_);clear e2;go_upto_region 10 with(fail);have hvi:¬v1=0:=hvp
  have hq1:(t:Int)/(v1:Int)<=18446744073709551615:=by
    have e:(t:Int)/(v1:Int)=((t/v1:Nat):Int):=rfl;have:=Nat.div_le_self t v1;rw[e];omega
  have hq2:0<=(t:Int)/(v1:Int):=Int.natCast_nonneg (t/v1)
  have hr1:(t:Int)%(v1:Int)<=4294967295:=by
    have e:(t:Int)%(v1:Int)=((t%v1:Nat):Int):=rfl;have:=Nat.mod_lt t (Nat.pos_of_ne_zero hvp);rw[e];omega
  have hr2:0<=(t:Int)%(v1:Int):=Int.natCast_nonneg (t%v1);have HI0:=hid (show t/v1*v1+t%v1=t/\UV<=t/v1 from⟨by rw[Nat.mul_comm];exact Nat.div_add_mod t v1,HFIRST.out⟩);have HR0:=hid (show t%v1<4294967296 by have:=Nat.mod_lt t (Nat.pos_of_ne_zero hvp);omega);have HGG0:=hid (show t/v1<=18446744073709551615 by have:=Nat.div_le_self t v1;omega);refine wp_region_staged (fun w'=>Below W5.heap.size W5 w') [0,0,0,0,0,1,0,0,0,0,0,0,0,1,0,0,0,0] (by kernel_rfl) (by kernel_rfl) (by kernel_rfl) (by exact hw6.drew) ?_
  iterate 5 (refine zs0 ?_)
  refine zs2 ?_
  iterate 7 (refine zs0 ?_)
  refine zs2 ?_
  iterate 4 (refine zs0 ?_)
  refine lexEnd (fun W7 hw7=>?_);clear hq1 hq2 hr1 hr2 c2 c1 hw6;go_wp2_with fail;go_loopw [13,14] (fun gv rv wr=> ∃g r:Nat,gv=.int .u64 (g:Int)/\rv=.int .u64 (r:Int)/\Hid (g*v1+r=t/\UV<=g)/\r<4294967296/\g<=18446744073709551615/\Below W5.heap.size W5 wr) (fun gv _ _=>(intOf gv).toNat)
  case atStart=>exact⟨t/v1,t%v1,rfl,rfl,HI0,HR0.out,HGG0.out,hw7⟩
  clear hw7 HI0 HR0 HGG0;obtain⟨g,r,rfl,rfl,HI,hr,hg,hbw⟩:=hrel;generalize wr=W8 at hbw⊢;go_upto_region 11 with(fail);refine wp_region_staged (fun w'=>Below W5.heap.size W5 w') [0,0,0,0,0,0,0,0,1,0,0,0,0,0,0,0,0,0,0,1,0,0,0,0] (by kernel_rfl) (by kernel_rfl) (by kernel_rfl) (by exact hbw.drew) ?_
  by_cases hgB:4294967296<=g
  . have hgi:(4294967296:Int)<=(g:Int):=by omega
    iterate 3 (refine zs0 ?_)
    iterate 5 (refine zs1 ?_)
    refine zs6 ?_
    iterate 10 (refine zs1 ?_)
    refine zs6 ?_
    iterate 3 (refine zs1 ?_)
    refine zs0 ?_;refine lexEnd (fun W9 hwB=>?_);have hgt:=HDEC.out g r HI.out.1 HI.out.2 (.inl hgB);obtain⟨g1,rfl⟩:∃g1,g=g1+1:=⟨g-1,by omega⟩;have HI2:=hid (show g1*v1+(r+v1)=t/\UV<=g1 from⟨by have:=HI.out.1;rw[Nat.add_mul]at this;omega,by omega⟩);have hg1:g1<=18446744073709551615:=by omega
    have eg:((g1+1:Nat):Int)-1=(g1:Int):=by omega
    have dB:=(hwB.cell (p:=⟨E,m1,none⟩) hEl).trans d1;have hlb:=Nat.lt_of_lt_of_le hEl hwB.size;clear hgt;go_upto_region 14 with(fail);clear eg hlb dB;obtain⟨rr,hrr⟩:∃rr,r+v1=rr:=⟨_,rfl⟩
    by_cases hbr:4294967296<=rr
    . have hbi:(4294967296:Int)<=(r:Int)+(v1:Int):=by omega
      have HQ:=hid (show UV<=g1/\g1<=UV+1/\g1<4294967296 from by
        have h3:=HI2.out;rw[hrr]at h3;have h5:=guess_break h3.1 HTOP1.out (by omega);exact⟨h3.2,HFINQ.out g1 rr h3.1 h5 (test_break h5 (by omega) (by omega)),h5⟩)
      have hww:=hwB;clear hbr hrr;go_upto_region 15 with(fail);have HRED:=hid (reduce_any D E n (ys.take j) us (ys.drop (j+n+1)) vs g1 W9 (Arr.below HWIN.out hww) (HE.out.below hww) hEne.symm (by rw[HS2.out,hvl]) HS6.out HVB.out (by rw[HVV.out];exact HV0.out) (by have:=HQ.out.2.2;omega) (by rw[HVV.out,HUU.out,HUV.out];exact HQ.out.1) (by rw[HVV.out,HUU.out,HUV.out];exact HQ.out.2.1) (by rw[HTK.out];omega) (by omega));rw[HTK.out,hvl,HVV.out,HUU.out,HUV.out]at HRED;have hsw:j<=i2+1:=by omega
      have hG8:=HGQ.out.below hww;have hgB:(g1:Int)<=4294967295:=by have:=HQ.out.2.2;omega
      go_wp2_with (go_at_call 164;refine HRED.out.mono ?_;clear HRED;rintro e W10 ⟨rfl,⟨us',hu1,hu2,hu3,hw10⟩,hg10⟩;have hG10:=arr_other hG8 hg10 hDG.symm;have cG:=hG10.cell j HJ.out;have fG:=hG10.free;have lG:=hG10.lt);go_roundw
      case rel=>exact⟨j,by omega,by go_num,HNEXT.out W10 us' (by rw[hu1];exact HS2.out) hu2 hu3 hw10 (grown_trans (below_grown hww) hg10)⟩
      case measure=>simp[intOf]
    have hbi:¬(4294967296:Int)<=(r:Int)+(v1:Int):=by omega
    rw[hrr]at HI2;have HRR:=hid hrr;clear hrr;go_wp2;go_roundw
    case rel=>exact⟨g1,rr,rfl,by rw[<-HRR.out];rfl,HI2,by omega,hg1,hwB⟩
    case measure=>simp[intOf]
  have hgi:¬(4294967296:Int)<=(g:Int):=by omega
  have e3:=div_or r a0 (by omega) (by omega);obtain⟨ra,hra⟩:∃ra,r*4294967296+a0=ra:=⟨_,rfl⟩;rw[hra]at e3;have hm0:0<=(g:Int)*(v2:Int):=Int.mul_nonneg (by omega) (by omega);have hmn':g*v2<=4294967295*4294967295:=Nat.mul_le_mul (by omega) (by omega);obtain⟨gv,hgv,hgv2⟩:∃gv:Nat,g*v2=gv/\(g:Int)*(v2:Int)=(gv:Int):=⟨_,rfl,by simp only[Int.natCast_mul]⟩;rw[hgv]at hmn';have hgvb:(gv:Int)<=18446744065119617025:=by omega
  by_cases hc:ra<gv
  . have HCD:=hid (show r*4294967296+a0<g*v2 by omega);have hci:(ra:Int)<(gv:Int):=by omega
    clear hra hgv hm0 hmn' hc
    iterate 3 (refine zs0 ?_)
    iterate 5 (refine zs1 ?_)
    refine zs6 ?_
    iterate 10 (refine zs1 ?_)
    refine zs6 ?_
    iterate 3 (refine zs1 ?_)
    refine zs0 ?_;refine lexEnd (fun W9 hwB=>?_);clear e3 hgv2;have hgt:=HDEC.out g r HI.out.1 HI.out.2 (.inr HCD.out);obtain⟨g1,rfl⟩:∃g1,g=g1+1:=⟨g-1,by omega⟩;have HI2:=hid (show g1*v1+(r+v1)=t/\UV<=g1 from⟨by have:=HI.out.1;rw[Nat.add_mul]at this;omega,by omega⟩);have hg1:g1<=18446744073709551615:=by omega
    have eg:((g1+1:Nat):Int)-1=(g1:Int):=by omega
    have dB:=(hwB.cell (p:=⟨E,m1,none⟩) hEl).trans d1;have hlb:=Nat.lt_of_lt_of_le hEl hwB.size;clear hgt;go_upto_region 14 with(fail);clear eg hlb dB;obtain⟨rr,hrr⟩:∃rr,r+v1=rr:=⟨_,rfl⟩
    by_cases hbr:4294967296<=rr
    . have hbi:(4294967296:Int)<=(r:Int)+(v1:Int):=by omega
      have HQ:=hid (show UV<=g1/\g1<=UV+1/\g1<4294967296 from by
        have h3:=HI2.out;rw[hrr]at h3;have h5:=guess_break h3.1 HTOP1.out (by omega);exact⟨h3.2,HFINQ.out g1 rr h3.1 h5 (test_break h5 (by omega) (by omega)),h5⟩)
      have hww:=hwB;clear hbr hrr;go_upto_region 15 with(fail);have HRED:=hid (reduce_any D E n (ys.take j) us (ys.drop (j+n+1)) vs g1 W9 (Arr.below HWIN.out hww) (HE.out.below hww) hEne.symm (by rw[HS2.out,hvl]) HS6.out HVB.out (by rw[HVV.out];exact HV0.out) (by have:=HQ.out.2.2;omega) (by rw[HVV.out,HUU.out,HUV.out];exact HQ.out.1) (by rw[HVV.out,HUU.out,HUV.out];exact HQ.out.2.1) (by rw[HTK.out];omega) (by omega));rw[HTK.out,hvl,HVV.out,HUU.out,HUV.out]at HRED;have hsw:j<=i2+1:=by omega
      have hG8:=HGQ.out.below hww;have hgB:(g1:Int)<=4294967295:=by have:=HQ.out.2.2;omega
      go_wp2_with (go_at_call 164;refine HRED.out.mono ?_;clear HRED;rintro e W10 ⟨rfl,⟨us',hu1,hu2,hu3,hw10⟩,hg10⟩;have hG10:=arr_other hG8 hg10 hDG.symm;have cG:=hG10.cell j HJ.out;have fG:=hG10.free;have lG:=hG10.lt);go_roundw
      case rel=>exact⟨j,by omega,by go_num,HNEXT.out W10 us' (by rw[hu1];exact HS2.out) hu2 hu3 hw10 (grown_trans (below_grown hww) hg10)⟩
      case measure=>simp[intOf]
    have hbi:¬(4294967296:Int)<=(r:Int)+(v1:Int):=by omega
    rw[hrr]at HI2;have HRR:=hid hrr;clear hrr;go_wp2;go_roundw
    case rel=>exact⟨g1,rr,rfl,by rw[<-HRR.out];rfl,HI2,by omega,hg1,hwB⟩
    case measure=>simp[intOf]
  have HQ:=hid (show UV<=g/\g<=UV+1/\g<4294967296 from⟨HI.out.2,HFINQ.out g r HI.out.1 (by omega) (by omega),by omega⟩);have hci:¬(ra:Int)<(gv:Int):=by omega
  clear hra hgv hm0 hmn' hc
  iterate 3 (refine zs0 ?_)
  iterate 5 (refine zs1 ?_)
  refine zs6 ?_
  iterate 10 (refine zs1 ?_)
  refine zs6 ?_
  iterate 3 (refine zs1 ?_)
  refine zs0 ?_;refine lexEnd (fun W9 hww=>?_);clear e3 hgv2;go_upto_region 15 with(fail);have HRED:=hid (reduce_any D E n (ys.take j) us (ys.drop (j+n+1)) vs g W9 (Arr.below HWIN.out hww) (HE.out.below hww) hEne.symm (by rw[HS2.out,hvl]) HS6.out HVB.out (by rw[HVV.out];exact HV0.out) (by have:=HQ.out.2.2;omega) (by rw[HVV.out,HUU.out,HUV.out];exact HQ.out.1) (by rw[HVV.out,HUU.out,HUV.out];exact HQ.out.2.1) (by rw[HTK.out];omega) (by omega));rw[HTK.out,hvl,HVV.out,HUU.out,HUV.out]at HRED;have hsw:j<=i2+1:=by omega
  have hG8:=HGQ.out.below hww;have hgB:(g:Int)<=4294967295:=by have:=HQ.out.2.2;omega
  go_wp2_with (go_at_call 164;refine HRED.out.mono ?_;clear HRED;rintro e W10 ⟨rfl,⟨us',hu1,hu2,hu3,hw10⟩,hg10⟩;have hG10:=arr_other hG8 hg10 hDG.symm;have cG:=hG10.cell j HJ.out;have fG:=hG10.free;have lG:=hG10.lt);go_roundw
  case rel=>exact⟨j,by omega,by go_num,HNEXT.out W10 us' (by rw[hu1];exact HS2.out) hu2 hu3 hw10 (grown_trans (below_grown hww) hg10)⟩
  case measure=>simp[intOf]
theorem has_set{base R:Nat}{w w':World}{c:Value}{t:TypeId}(h:Has base R (.cells #[c] t) w)(u:Value)(hb:Below (w.setCell ⟨R,0,none⟩ u).heap.size (w.setCell ⟨R,0,none⟩ u) w'):Has 0 R (.cells #[u] t) w':=
  Has.below ⟨Nat.zero_le _,box_store h.2 u⟩ hb
theorem has_far{base R R':Nat}{w w':World}{o:Obj}(h:Has base R o w)(hne:R≠R')(u:Value)(hb:Below (w.setCell ⟨R',0,none⟩ u).heap.size (w.setCell ⟨R',0,none⟩ u) w'):Has 0 R o w':=
  Has.below ⟨Nat.zero_le _,by rw[setCell_far _ hne];exact h.2⟩ hb
theorem nat_set{base R:Nat}{w w':World}{v:Value}{n:Nat}{p:Option Addr}{l c:Nat}{t:TypeId}(h:NatV w v n)(hR:Has base R (.cells #[.slice p l c] t) w)(u:Value)(hb:Below (w.setCell ⟨R,0,none⟩ u).heap.size (w.setCell ⟨R,0,none⟩ u) w'):NatV w' v n:=
  (h.store (hasCell hR) u).below hb
theorem ks_set{V w:World}{R:Nat}{fs fs':List (World->Prop)}(hK:KS V fs w)(hR:V.heap.size<=R)(u:Value)(h:∀F∈fs',∀w',Below (w.setCell ⟨R,0,none⟩ u).heap.size (w.setCell ⟨R,0,none⟩ u) w'->F w'):KS V fs' (w.setCell ⟨R,0,none⟩ u):=
  ⟨hK.old.setCell (p:=⟨R,0,none⟩) hR _,h⟩
theorem all0{P:(World->Prop)->Prop}:∀F∈([]:List (World->Prop)),P F:=fun _ h=>absurd h List.not_mem_nil
theorem all1{P:(World->Prop)->Prop}{F:World->Prop}{l:List (World->Prop)}(h:P F)(h':∀F∈l,P F):∀G∈F::l,P G:=fun G hG=>by
  rcases List.mem_cons.1 hG with rfl|hG
  . exact h
  exact h' G hG
theorem digs_small{m:Nat}(hm:m≠0)(h:m<B32):digs B32 m=[m]:=digs_one hm h
set_option maxRecDepth 100000 in
set_option maxHeartbeats 4000000 in
theorem divmod_small(v u:Value)(n m:Nat)(w:World)(hv:NatV w v n)(hu:NatV w u m)(hm:m≠0)(hm1:m<4294967296)(hn:18446744073709551616<=n)(hl:(digs B32 n).length<=100000):
    Calls Tryz.prog 142 #[v,u] w fun e w'=> ∃x y,e=.returned (.tuple #[x,y,.int .i64 0])/\NatV w' x (n/m)/\NatV w' y (n%m)/\Below w.heap.size w w':=by
  have hln:(digs B32 n).length<=100000:=hl;have hdm:=digs_small hm (by rw[b32];exact hm1);have hlm:(digs B32 m).length=1:=by rw[hdm];rfl
  have HZ:=hid (fun w1 (hb:Below w.heap.size w w1)=>isZero_any u m w1 (hu.below hb));have HC:=hid (fun w1 (hb:Below w.heap.size w w1)=>cmp_any v u n m w1 (hv.below hb) (hu.below hb) (by omega) (by omega));have HU:=hid (fun w1 (hb:Below w.heap.size w w1)=>uint64_any v n w1 (hv.below hb));have HU':=hid (fun w1 (hb:Below w.heap.size w w1)=>uint64_any u m w1 (hu.below hb));rw[show(m==0)=false by simpa using hm]at HZ;rw[show u64V n=.tuple #[.int .u64 0,.bool false] by unfold u64V;rw[if_neg (by omega),decide_eq_false (by omega)]]at HU;rw[show u64V m=.tuple #[.int .u64 (m:Int),.bool true] by unfold u64V;rw[if_pos (by omega),decide_eq_true (by omega)]]at HU';have hcn:¬cmpN n m<0:=by unfold cmpN;rw[if_neg (by omega)];split<;>omega
  have HDS:=hid (fun w1 (hb:Below w.heap.size w w1)=>divs_any v n m w1 (hv.below hb) (by omega) (Nat.pos_of_ne_zero hm) (by omega));have HO2:=hid (fun w1=>of_any (n%m) w1 (by have:=Nat.mod_lt n (Nat.pos_of_ne_zero hm);omega));have hrm:n%m<=4294967295:=by have:=Nat.mod_lt n (Nat.pos_of_ne_zero hm);omega
  obtain⟨P,c,rfl,_⟩:=hv.digp;obtain⟨Q,c',rfl,hq⟩:=hu.digp;obtain⟨g,rfl,hg⟩:=hq.at (k:=0) (by omega);have hd0:=hg.at0 0 (by omega);have e0:(digs B32 m)[0]'(by omega)=m:=by simp only[hdm,List.getElem_cons_zero]
  rw[e0]at hd0;have hgl:=hg.lt;rw[hlm]at HZ HC HU'⊢;obtain⟨cm,hcm⟩:∃cm,cmpN n m=cm:=⟨_,rfl⟩;rw[hcm]at hcn HC;obtain⟨ln,hlne⟩:∃ln,(digs B32 n).length=ln:=⟨_,rfl⟩;rw[hlne]at HC HU HDS⊢;obtain⟨q,hqe⟩:∃q,n/m=q:=⟨_,rfl⟩;obtain⟨r,hre⟩:∃r,n%m=r:=⟨_,rfl⟩;rw[hqe]at HDS⊢;rw[hre]at HDS HO2 hrm⊢;clear hq hg hv hu hln hlm hdm hcm hlne hqe hre hl hn hm e0;go_enter Tryz.func142,Tryz.ntmps142;go_upto_region 1 with(fail);obtain⟨W0,hW0,hB0⟩:=box4_head (.slice P ln c) (.slice (some ⟨g,0,none⟩) 1 c') w;rw[<-hW0];clear hW0;have a1:=cell_box1 hB0.k1;go_upto_region 3 with(go_at_call 55;refine(HZ.out _ hB0.old).mono ?_;clear HZ;rintro e W1 ⟨rfl,hw1⟩;have hB1:=hB0.below hw1);clear hB0 hw1 a1;have a0:=cell_box1 hB1.k0;have a1:=cell_box1 hB1.k1;go_upto_region 5 with(go_at_call 116;refine(HC.out _ hB1.old).mono ?_;clear HC;rintro e W2 ⟨rfl,hw2⟩;have hB2:=hB1.below hw2);clear hB1 hw2 a0 a1;have a0:=cell_box1 hB2.k0;go_upto_region 6 with(go_at_call 151;refine(HU.out _ hB2.old).mono ?_;clear HU;rintro e W3 ⟨rfl,hw3⟩;have hB3:=hB2.below hw3);clear hB2 hw3 a0;have a1:=cell_box1 hB3.k1;go_upto_region 9 with(go_at_call 151;refine(HU'.out _ hB3.old).mono ?_;clear HU';rintro e W4 ⟨rfl,hw4⟩;have hB4:=hB3.below hw4);clear hB3 hw4 a1;have a0:=cell_box1 hB4.k0;have a1:=cell_box1 hB4.k1;have d4:=(hB4.old.cell (p:=⟨g,0,none⟩) hgl).trans hd0;have hgl4:=Nat.lt_of_lt_of_le hgl hB4.old.size;have sz4:=hB4.sz;have b0:w.heap.size<W4.heap.size:=by omega
  have b1:w.heap.size+1<W4.heap.size:=by omega
  go_upto_region 10 with(fail);refine wp_region_float (W4) [] [0,0,0,0,0,2,0,0,0,3,4,0] (by kernel_rfl) (by kernel_rfl) (by kernel_rfl) (by kernel_rfl) (KS.drew (KS.start W4)) ?_
  iterate 5 (refine zs5 ?_)
  apply lxE0 (α:=Option Addr × Nat) (fun x=>.tuple #[.agg #[.slice x.1 (digs B32 q).length x.2],.int .u32 (r:Int)]) (fun x=>[fun w=>NatV w (.agg #[.slice x.1 (digs B32 q).length x.2]) q]) (wants0 rfl)
  . intro w' h0 hK;go_simp;(try go_bits);refine(HDS.out w' (hB4.old.trans (hK.old.mono hB4.old.size))).mono ?_;rintro e w5 ⟨x,rfl,hx,hb⟩;obtain⟨p5,c5,rfl,_⟩:=hx.dig;exact⟨_,rfl,p5,c5,rfl,hb,fun w6 h6=>hx.below h6⟩
  rintro⟨p5,c5⟩
  refine zs4 ?_
  iterate 3 (refine zs5 ?_)
  apply lxA0 (.cells #[.slice none 0 0] 68) (wants0 rfl)
  . intro w' h0;go_simp;rfl
  intro R11;simp only[mkOf,Act.put,List.setIfInBounds_toArray,List.set_cons_zero,List.set_cons_succ];apply lxS0 [Has 0 R11 (.cells #[.slice p5 (digs B32 q).length c5] 68),fun w=>NatV w (.agg #[.slice p5 (digs B32 q).length c5]) q] (wants0 rfl)
  . intro w' h0 hK;have hR:=hK.get (F:=Has W4.heap.size R11 (.cells #[.slice none 0 0] 68)) zsm;have hN:=hK.get (F:=fun w=>NatV w (.agg #[.slice p5 (digs B32 q).length c5]) q) zsm;have c1:=hasCell hR;have f1:=hasFree hR;go_simp;exact⟨rfl,ks_set h0 hR.1 _ all0,ks_set hK hR.1 _ (all1 (fun w2 hb=>has_set hR _ hb) (all1 (fun w2 hb=>nat_set hN hR _ hb) all0))⟩
  simp only[Act.put];refine zs5 ?_;refine lxEnd (fun W5 hK5=>?_);have hB5:=hB4.below hK5.old
  have hK:KS w [Has 0 R11 (.cells #[.slice p5 (digs B32 q).length c5] 68),fun w=>NatV w (.agg #[.slice p5 (digs B32 q).length c5]) q,Has 0 (w.heap.size+1+1) (.cells #[.slice none 0 0] 68),Has 0 (w.heap.size+1+1+1) (.cells #[.slice none 0 0] 68)] W5:=
    ⟨hB5.old,all1 (hK5.all _ zsm) (all1 (hK5.all _ zsm) (all1 (fun w2 hb=>Has.below ⟨Nat.zero_le _,hB5.k2⟩ hb) (all1 (fun w2 hb=>Has.below ⟨Nat.zero_le _,hB5.k3⟩ hb) all0)))⟩
  go_upto_region 11 with(fail);refine wp_region_float (w) _ [1,0,0,2,4,4,0] (by kernel_rfl) (by kernel_rfl) (by kernel_rfl) (by kernel_rfl) (KS.drew hK) ?_;apply lxR0 (wants0 rfl);(· intro w' h0 hK;have hw':=hK.old;have c11:=hasCell (hK.get (F:=Has 0 R11 (.cells #[.slice p5 (digs B32 q).length c5] 68)) zsm);go_simp;(try go_bits);exact⟨rfl,rfl⟩);simp only[Act.put,List.setIfInBounds_toArray,List.set_cons_zero,List.set_cons_succ]
  iterate 2 (refine zs3 ?_)
  apply lxE0 (α:=Option Addr × Nat) (fun x=>.agg #[.slice x.1 (digs B32 r).length x.2]) (fun x=>[fun w=>NatV w (.agg #[.slice x.1 (digs B32 r).length x.2]) r]) (wants0 rfl)
  . intro w' h0 hK;go_simp;(try go_bits);refine(HO2.out w').mono ?_;rintro e w5 ⟨x,rfl,hx,hb⟩;obtain⟨p6,c6,rfl,_⟩:=hx.dig;exact⟨_,rfl,p6,c6,rfl,hb,fun w6 h6=>hx.below h6⟩
  rintro⟨p6,c6⟩
  refine zs4 ?_;apply lxS0 [Has 0 (w.heap.size+1+1) (.cells #[.slice p5 (digs B32 q).length c5] 68),Has 0 (w.heap.size+1+1+1) (.cells #[.slice none 0 0] 68),fun w=>NatV w (.agg #[.slice p5 (digs B32 q).length c5]) q,fun w=>NatV w (.agg #[.slice p6 (digs B32 r).length c6]) r] (wants0 rfl)
  . intro w' h0 hK;have hR:=hK.get (F:=Has 0 (w.heap.size+1+1) (.cells #[.slice none 0 0] 68)) zsm;have hR':=hK.get (F:=Has 0 (w.heap.size+1+1+1) (.cells #[.slice none 0 0] 68)) zsm;have hN:=hK.get (F:=fun w=>NatV w (.agg #[.slice p5 (digs B32 q).length c5]) q) zsm;have hN':=hK.get (F:=fun w=>NatV w (.agg #[.slice p6 (digs B32 r).length c6]) r) zsm;have c1:=hasCell hR;have f1:=hasFree hR;go_simp;exact⟨rfl,ks_set h0 (by omega) _ all0,ks_set hK (by omega) _ (all1 (fun w2 hb=>has_set hR _ hb) (all1 (fun w2 hb=>has_far hR' (by omega) _ hb) (all1 (fun w2 hb=>nat_set hN hR _ hb) (all1 (fun w2 hb=>nat_set hN' hR _ hb) all0))))⟩
  simp only[Act.put];apply lxS0 [Has 0 (w.heap.size+1+1) (.cells #[.slice p5 (digs B32 q).length c5] 68),Has 0 (w.heap.size+1+1+1) (.cells #[.slice p6 (digs B32 r).length c6] 68),fun w=>NatV w (.agg #[.slice p5 (digs B32 q).length c5]) q,fun w=>NatV w (.agg #[.slice p6 (digs B32 r).length c6]) r] (wants0 rfl)
  . intro w' h0 hK;have hR:=hK.get (F:=Has 0 (w.heap.size+1+1+1) (.cells #[.slice none 0 0] 68)) zsm;have hR':=hK.get (F:=Has 0 (w.heap.size+1+1) (.cells #[.slice p5 (digs B32 q).length c5] 68)) zsm;have hN:=hK.get (F:=fun w=>NatV w (.agg #[.slice p5 (digs B32 q).length c5]) q) zsm;have hN':=hK.get (F:=fun w=>NatV w (.agg #[.slice p6 (digs B32 r).length c6]) r) zsm;have c1:=hasCell hR;have f1:=hasFree hR;go_simp;exact⟨rfl,ks_set h0 (by omega) _ all0,ks_set hK (by omega) _ (all1 (fun w2 hb=>has_far hR' (by omega) _ hb) (all1 (fun w2 hb=>has_set hR _ hb) (all1 (fun w2 hb=>nat_set hN hR _ hb) (all1 (fun w2 hb=>nat_set hN' hR _ hb) all0))))⟩
  simp only[Act.put];refine zs3 ?_;refine lxEnd (fun W9 hK9=>?_);have k2:=hasCell (hK9.get (F:=Has 0 (w.heap.size+1+1) (.cells #[.slice p5 (digs B32 q).length c5] 68)) zsm);have k3:=hasCell (hK9.get (F:=Has 0 (w.heap.size+1+1+1) (.cells #[.slice p6 (digs B32 r).length c6] 68)) zsm);have hx:=hK9.get (F:=fun w=>NatV w (.agg #[.slice p5 (digs B32 q).length c5]) q) zsm;have hy:=hK9.get (F:=fun w=>NatV w (.agg #[.slice p6 (digs B32 r).length c6]) r) zsm;go_wp2;exact bodyPost_ret (v:=.tuple #[.agg #[.slice p5 (digs B32 q).length c5],.agg #[.slice p6 (digs B32 r).length c6],.int .i64 0]) (by simp[results,Tryz.results142,go_sem,k2,k3]) rfl ⟨_,_,rfl,hx,hy,hK9.old⟩
set_option maxRecDepth 100000 in
set_option maxHeartbeats 4000000 in
theorem divmod_long(v u:Value)(n m:Nat)(w:World)(hv:NatV w v n)(hu:NatV w u m)(hm1:4294967296<=m)(hle:m<=n)(hn:18446744073709551616<=n)(hl:(digs B32 n).length<=100000):
    Calls Tryz.prog 142 #[v,u] w fun e w'=> ∃x y,e=.returned (.tuple #[x,y,.int .i64 0])/\NatV w' x (n/m)/\NatV w' y (n%m)/\Below w.heap.size w w':=by
  have hm:m≠0:=by omega
  have hlm:(digs B32 m).length<=(digs B32 n).length:=digs_mono hle;have hl2:2<=(digs B32 m).length:=digs_len_ge b32_2 1 m (by rw[b32];omega);have HZ:=hid (fun w1 (hb:Below w.heap.size w w1)=>isZero_any u m w1 (hu.below hb));have HC:=hid (fun w1 (hb:Below w.heap.size w w1)=>cmp_any v u n m w1 (hv.below hb) (hu.below hb) (by omega) (by omega));have HU:=hid (fun w1 (hb:Below w.heap.size w w1)=>uint64_any v n w1 (hv.below hb));have HU':=hid (fun w1 (hb:Below w.heap.size w w1)=>uint64_any u m w1 (hu.below hb));rw[show(m==0)=false by simpa using hm]at HZ;rw[show u64V n=.tuple #[.int .u64 0,.bool false] by unfold u64V;rw[if_neg (by omega),decide_eq_false (by omega)]]at HU;have hcn:¬cmpN n m<0:=by unfold cmpN;rw[if_neg (by omega)];split<;>omega
  obtain⟨P,c,rfl,hp⟩:=hv.digp;obtain⟨Q,c',rfl,hq⟩:=hu.digp
  have HDL:=hid (fun w1 (hb:Below w.heap.size w w1)=>long_core P Q c c' (digs B32 n) (digs B32 m) w1 (hp.below hb) (hq.below hb) (digs_lt b32_2 n) (digs_lt b32_2 m) hl2 hlm hl (fun k hk hk1 h0=>by
    have h3:=val_top (B:=B32) (show(digs B32 m).length=k+1 by omega);rw[val_digs b32_2,h0,Nat.mul_zero,Nat.add_zero]at h3;have h4:=take_lt b32_2 (digs_lt b32_2 m) (k:=k) (by omega);rw[<-h3]at h4;have:=digs_len_le b32_2 k m h4;omega))
  rw[val_digs b32_2,val_digs b32_2]at HDL;unfold u64V at HU';obtain⟨m64,hm64⟩:∃m64:Int,(if m<18446744073709551616 then(m:Int)else 0)=m64:=⟨_,rfl⟩;obtain⟨bm,hbm⟩:∃bm,decide (m<18446744073709551616)=bm:=⟨_,rfl⟩;rw[hm64,hbm]at HU';obtain⟨cm,hcm⟩:∃cm,cmpN n m=cm:=⟨_,rfl⟩;rw[hcm]at hcn HC;obtain⟨ln,hlne⟩:∃ln,(digs B32 n).length=ln:=⟨_,rfl⟩;obtain⟨lm,hlme⟩:∃lm,(digs B32 m).length=lm:=⟨_,rfl⟩;rw[hlne,hlme]at HC HDL;rw[hlne]at HU⊢;rw[hlme]at HZ HU' hl2⊢;obtain⟨q,hqe⟩:∃q,n/m=q:=⟨_,rfl⟩;obtain⟨r,hre⟩:∃r,n%m=r:=⟨_,rfl⟩;rw[hqe,hre]at HDL⊢;have hl1:((lm:Int)==1)=false:=by rw[beq_eq_false_iff_ne];omega
  clear hp hq hv hu hlm hcm hlne hlme hqe hre hl hn hm hm1 hle hm64 hbm;go_enter Tryz.func142,Tryz.ntmps142;go_upto_region 1 with(fail);obtain⟨W0,hW0,hB0⟩:=box4_head (.slice P ln c) (.slice Q lm c') w;rw[<-hW0];clear hW0;have a1:=cell_box1 hB0.k1;go_upto_region 3 with(go_at_call 55;refine(HZ.out _ hB0.old).mono ?_;clear HZ;rintro e W1 ⟨rfl,hw1⟩;have hB1:=hB0.below hw1);clear hB0 hw1 a1;have a0:=cell_box1 hB1.k0;have a1:=cell_box1 hB1.k1;go_upto_region 5 with(go_at_call 116;refine(HC.out _ hB1.old).mono ?_;clear HC;rintro e W2 ⟨rfl,hw2⟩;have hB2:=hB1.below hw2);clear hB1 hw2 a0 a1;have a0:=cell_box1 hB2.k0;go_upto_region 6 with(go_at_call 151;refine(HU.out _ hB2.old).mono ?_;clear HU;rintro e W3 ⟨rfl,hw3⟩;have hB3:=hB2.below hw3);clear hB2 hw3 a0;have a1:=cell_box1 hB3.k1;go_upto_region 9 with(go_at_call 151;refine(HU'.out _ hB3.old).mono ?_;clear HU';rintro e W4 ⟨rfl,hw4⟩;have hB4:=hB3.below hw4);clear hB3 hw4 a1;have a0:=cell_box1 hB4.k0;have a1:=cell_box1 hB4.k1;go_upto_region 13 with(go_at_call 152;refine(HDL.out _ hB4.old).mono ?_;clear HDL;rintro e W5 ⟨x,y,rfl,hx,hy,hw5⟩;have hB5:=hB4.below hw5;obtain⟨p5,c5,rfl,_⟩:=hx.dig;obtain⟨p6,c6,rfl,_⟩:=hy.dig)
  obtain⟨V3,hVV,hK0,hK⟩:∃VV,VV=(W5.alloc (.cells #[.slice p5 (digs B32 q).length c5] 68)).alloc (.cells #[.slice p6 (digs B32 r).length c6] 68)/\KS w [Has 0 W5.heap.size (.cells #[.slice p5 (digs B32 q).length c5] 68),Has 0 (W5.heap.size+1) (.cells #[.slice p6 (digs B32 r).length c6] 68)] VV/\KS w [Has 0 (w.heap.size+1+1) (.cells #[.slice none 0 0] 68),Has 0 (w.heap.size+1+1+1) (.cells #[.slice none 0 0] 68),fun w=>NatV w (.agg #[.slice p5 (digs B32 q).length c5]) q,fun w=>NatV w (.agg #[.slice p6 (digs B32 r).length c6]) r] VV:=by
    have g1:=(Below.refl W5.heap.size W5).alloc (Nat.le_refl _) (.cells #[.slice p5 (digs B32 q).length c5] 68);have g2:=g1.alloc (by simp) (.cells #[.slice p6 (digs B32 r).length c6] 68);have g3:=heap_new (W5.alloc (.cells #[.slice p5 (digs B32 q).length c5] 68)) (.cells #[.slice p6 (digs B32 r).length c6] 68);rw[World.size_alloc]at g3;have g4:=(Below.heap_alloc (W5.alloc (.cells #[.slice p5 (digs B32 q).length c5] 68)) (.cells #[.slice p6 (digs B32 r).length c6] 68) W5.heap.size (by simp)).trans (heap_new W5 _);have hB6:=hB5.below g2;exact⟨_,rfl,⟨hB6.old,all1 (fun w2 hb=>Has.below ⟨Nat.zero_le _,g4⟩ hb) (all1 (fun w2 hb=>Has.below ⟨Nat.zero_le _,g3⟩ hb) all0)⟩,⟨hB6.old,all1 (fun w2 hb=>Has.below ⟨Nat.zero_le _,hB6.k2⟩ hb) (all1 (fun w2 hb=>Has.below ⟨Nat.zero_le _,hB6.k3⟩ hb) (all1 (fun w2 hb=>(hx.below g2).below hb) (all1 (fun w2 hb=>(hy.below g2).below hb) all0)))⟩⟩
  have hs5:=hB5.sz;rw[<-hVV];clear hVV hx hy hB4 hB5 hw5 a0 a1;generalize W5.heap.size=R13 at hK0 hs5⊢;refine wp_region_float0 (w) [_,_] _ [0,0,4,4,0] (by kernel_rfl) (by kernel_rfl) (by kernel_rfl) (by kernel_rfl) (KS.drew hK0) (KS.drew hK) ?_;apply lxF0 (wants0 rfl);(· intro w' h0;have hw':=h0.old;have c13:=hasCell (h0.get (F:=Has 0 R13 (.cells #[.slice p5 (digs B32 q).length c5] 68)) zsm);have c14:=hasCell (h0.get (F:=Has 0 (R13+1) (.cells #[.slice p6 (digs B32 r).length c6] 68)) zsm);go_simp;(try go_bits);exact⟨rfl,rfl⟩);simp only[Act.put,List.setIfInBounds_toArray,List.set_cons_zero,List.set_cons_succ];apply lxF0 (wants0 rfl);(· intro w' h0;have hw':=h0.old;have c13:=hasCell (h0.get (F:=Has 0 R13 (.cells #[.slice p5 (digs B32 q).length c5] 68)) zsm);have c14:=hasCell (h0.get (F:=Has 0 (R13+1) (.cells #[.slice p6 (digs B32 r).length c6] 68)) zsm);go_simp;(try go_bits);exact⟨rfl,rfl⟩);simp only[Act.put,List.setIfInBounds_toArray,List.set_cons_zero,List.set_cons_succ];apply lxS0 [Has 0 (w.heap.size+1+1) (.cells #[.slice p5 (digs B32 q).length c5] 68),Has 0 (w.heap.size+1+1+1) (.cells #[.slice none 0 0] 68),fun w=>NatV w (.agg #[.slice p5 (digs B32 q).length c5]) q,fun w=>NatV w (.agg #[.slice p6 (digs B32 r).length c6]) r] (wants0 rfl)
  . intro w' h0 hK;have g13:=h0.get (F:=Has 0 R13 (.cells #[.slice p5 (digs B32 q).length c5] 68)) zsm;have g14:=h0.get (F:=Has 0 (R13+1) (.cells #[.slice p6 (digs B32 r).length c6] 68)) zsm;have hR:=hK.get (F:=Has 0 (w.heap.size+1+1) (.cells #[.slice none 0 0] 68)) zsm;have hR':=hK.get (F:=Has 0 (w.heap.size+1+1+1) (.cells #[.slice none 0 0] 68)) zsm;have hN:=hK.get (F:=fun w=>NatV w (.agg #[.slice p5 (digs B32 q).length c5]) q) zsm;have hN':=hK.get (F:=fun w=>NatV w (.agg #[.slice p6 (digs B32 r).length c6]) r) zsm;have c1:=hasCell hR;have f1:=hasFree hR;go_simp;exact⟨rfl,ks_set h0 (by omega) _ (all1 (fun w2 hb=>has_far g13 (by omega) _ hb) (all1 (fun w2 hb=>has_far g14 (by omega) _ hb) all0)),ks_set hK (by omega) _ (all1 (fun w2 hb=>has_set hR _ hb) (all1 (fun w2 hb=>has_far hR' (by omega) _ hb) (all1 (fun w2 hb=>nat_set hN hR _ hb) (all1 (fun w2 hb=>nat_set hN' hR _ hb) all0))))⟩
  simp only[Act.put];apply lxS0 [Has 0 (w.heap.size+1+1) (.cells #[.slice p5 (digs B32 q).length c5] 68),Has 0 (w.heap.size+1+1+1) (.cells #[.slice p6 (digs B32 r).length c6] 68),fun w=>NatV w (.agg #[.slice p5 (digs B32 q).length c5]) q,fun w=>NatV w (.agg #[.slice p6 (digs B32 r).length c6]) r] (wants0 rfl)
  . intro w' h0 hK;have g13:=h0.get (F:=Has 0 R13 (.cells #[.slice p5 (digs B32 q).length c5] 68)) zsm;have g14:=h0.get (F:=Has 0 (R13+1) (.cells #[.slice p6 (digs B32 r).length c6] 68)) zsm;have hR:=hK.get (F:=Has 0 (w.heap.size+1+1+1) (.cells #[.slice none 0 0] 68)) zsm;have hR':=hK.get (F:=Has 0 (w.heap.size+1+1) (.cells #[.slice p5 (digs B32 q).length c5] 68)) zsm;have hN:=hK.get (F:=fun w=>NatV w (.agg #[.slice p5 (digs B32 q).length c5]) q) zsm;have hN':=hK.get (F:=fun w=>NatV w (.agg #[.slice p6 (digs B32 r).length c6]) r) zsm;have c1:=hasCell hR;have f1:=hasFree hR;go_simp;exact⟨rfl,ks_set h0 (by omega) _ (all1 (fun w2 hb=>has_far g13 (by omega) _ hb) (all1 (fun w2 hb=>has_far g14 (by omega) _ hb) all0)),ks_set hK (by omega) _ (all1 (fun w2 hb=>has_far hR' (by omega) _ hb) (all1 (fun w2 hb=>has_set hR _ hb) (all1 (fun w2 hb=>nat_set hN hR _ hb) (all1 (fun w2 hb=>nat_set hN' hR _ hb) all0))))⟩
  simp only[Act.put];apply lxF0 (wants0 rfl);(· intro w' h0;have hw':=h0.old;have c13:=hasCell (h0.get (F:=Has 0 R13 (.cells #[.slice p5 (digs B32 q).length c5] 68)) zsm);have c14:=hasCell (h0.get (F:=Has 0 (R13+1) (.cells #[.slice p6 (digs B32 r).length c6] 68)) zsm);go_simp;(try go_bits);exact⟨rfl,rfl⟩);simp only[Act.put,List.setIfInBounds_toArray,List.set_cons_zero,List.set_cons_succ];refine lxEnd (fun W9 hK9=>?_);have k2:=hasCell (hK9.get (F:=Has 0 (w.heap.size+1+1) (.cells #[.slice p5 (digs B32 q).length c5] 68)) zsm);have k3:=hasCell (hK9.get (F:=Has 0 (w.heap.size+1+1+1) (.cells #[.slice p6 (digs B32 r).length c6] 68)) zsm);have hx:=hK9.get (F:=fun w=>NatV w (.agg #[.slice p5 (digs B32 q).length c5]) q) zsm;have hy:=hK9.get (F:=fun w=>NatV w (.agg #[.slice p6 (digs B32 r).length c6]) r) zsm;go_wp2;exact bodyPost_ret (v:=.tuple #[.agg #[.slice p5 (digs B32 q).length c5],.agg #[.slice p6 (digs B32 r).length c6],.int .i64 0]) (by simp[results,Tryz.results142,go_sem,k2,k3]) rfl ⟨_,_,rfl,hx,hy,hK9.old⟩
theorem divmod_any(v u:Value)(n m:Nat)(w:World)(hv:NatV w v n)(hu:NatV w u m)(hm:m≠0)(hl:(digs B32 n).length<=100000)(hl2:(digs B32 m).length<=100000):
    Calls Tryz.prog 142 #[v,u] w fun e w'=> ∃x y,e=.returned (.tuple #[x,y,.int .i64 0])/\NatV w' x (n/m)/\NatV w' y (n%m)/\Below w.heap.size w w':=by
  by_cases h1:n<m
  . exact divmod_lt v u n m w hv hu h1 (by omega) (by omega)
  by_cases h2:n<18446744073709551616
  . exact divmod_64 v u n m w hv hu hm (by omega) h2
  by_cases h3:m<4294967296
  . exact divmod_small v u n m w hv hu hm h3 (by omega) hl
  exact divmod_long v u n m w hv hu (by omega) (by omega) (by omega) hl
end
section
section
variable {P:Program}
theorem append_types{w:World}(t u ty e e':TypeId)(ht:P.underlying t=some (.slice e))(hu:P.underlying u=some (.slice e'))(p:Option Addr)(n c:Nat)(x:Value):
    (Builtin.append_ #[t,u] ty #[.slice p n c,x]).run P w=(Builtin.append_ #[t,t] ty #[.slice p n c,x]).run P w:=by
  simp[Builtin.append_,run_underlying ht,run_underlying hu]
theorem wpList_append_two{w:World}{ops:Array Oper}{rest:List Oper}{o:Oper}{a:Act}{Q:Exit->Act->World->Prop}(hgd:o.guard=none)(s x:Operand)(t u:TypeId)
    (ho:o.op=.call {callee:=.builtin .append,args:=#[s,x],argTypes:=#[t,u]})
    (base:Nat) (e e':TypeId) (i:TypeInfo) (z:Value) (bytes:Nat) (ht:P.underlying t=some (.slice e)) (hu:P.underlying u=some (.slice e')) (hi:P.info? e=some i) (hz:i.zero=some z)
    (hsize:i.size=1) (hby:i.bytes=bytes) (hzs:z.cells.size=1)
    (v:Value) (n:Nat) (xs:List Value) (hs:a.eval s=v) (hown:w.ownsRow base e 1 v n xs)
    (p:Option Addr) (m c:Nat) (news:List Value) (hx:a.eval x=.slice p m c) (hl:news.length=m) (hnews:m=0\/ ∃ad,p=some ad/\ ∀j u,news[j]?=some u->w.cell? (ad.add j)=some u) (h1:∀u∈news,u.oneCell'=true)
    (h63:n+m<=maxLen) (hbytes:(n+m)*bytes<=140737488355328) (hbase:base<=w.heap.size)
    (h:∀v' w',w'.ownsRow base e 1 v' (n+m) (xs++news)->w.grownBy w' v.ownBlock->wpList P ops Q rest (a.put o.dst v') w'):wpList P ops Q (o::rest) a w:=by
  refine wpList_plain hgd fun K hK=>?_
  obtain⟨pv,cv,rfl⟩:=row_slice hown
  have key:∃v' w',(Builtin.append_ #[t,t] o.type #[.slice pv n cv,.slice p m c]).run P w=.ok v' w'/\w'.ownsRow base e 1 v' (n+m) (xs++news)/\w.grownBy w' (Value.slice pv n cv).ownBlock:=by
    by_cases hp:∃ad,p=some ad
    . obtain⟨ad,rfl⟩:=hp
      have hn:∀j u,news[j]?=some u->w.cell? (ad.add j)=some u:=by
        rcases hnews with rfl|⟨ad',e1,h2⟩
        . intro j u hj;rw[List.eq_nil_of_length_eq_zero hl]at hj;simp at hj
        injection e1 with e1;subst e1;exact h2
      obtain⟨v',w',hr,h2,h3,_⟩:=run_append_own (P:=P) w base t o.type e i z 1 bytes ht hi hz hsize hby hzs (by decide) _ n xs hown ad m c news (by omega) hn h1 h63 hbytes hbase;exact⟨v',w',hr,h2,h3⟩
    have hp0:p=none:=by cases p with
      |none=>rfl
      |some ad=>exact absurd ⟨ad,rfl⟩ hp
    subst hp0
    rcases hnews with rfl|⟨ad',e1,_⟩
    . have e0:news=[]:=List.eq_nil_of_length_eq_zero hl;subst e0
      have e2:(Builtin.append_ #[t,t] o.type #[.slice pv n cv,.slice none 0 c]).run P w=.ok (.slice pv n cv) w:=by
        have hle:n<=cv:=by
          rcases hown.2 with⟨e3,rfl⟩|⟨g,cap,cur,e3,_,_,h4,_⟩
          . exact Nat.zero_le _
          injection e3 with _ _ e4;omega
        cases pv<;>simp[Builtin.append_,run_underlying ht,sizeOf,typeInfo,hi,Builtin.lenOf,Builtin.firstCells,hle,loadCells,storeCells]
      exact⟨_,w,e2,by simpa using hown,⟨rfl,rfl,rfl,Nat.le_refl _,fun _ _ _=>rfl⟩⟩
    cases e1
  obtain⟨v',w',hr,h2,h3⟩:=key;unfold Oper.wp execOp;simp only[ho,resolve,invoke,builtin,Sem.run_bind,Sem.run_pure,Result.andThen_ok,List.map_toArray,List.map_cons,List.map_nil,hs,hx,append_types t u o.type e e' ht hu,hr];exact hK _ _ (h v' w' h2 h3)
end
def B6:Nat:=1000000
theorem b6:B6=1000000:=rfl
theorem b6_2:2<=B6:=by decide
def iCell(x:Nat):Value:=.int .i64 (x:Int)
structure GDig(W:World)(g:Nat)(xs:List Nat):Prop where
  lt:g<W.heap.size
  at0:∀k (h:k<xs.length),W.cell? ⟨g,k,none⟩=some (iCell xs[k])
theorem GDig.below{W W':World}{g:Nat}{xs:List Nat}(h:GDig W g xs)(hb:Below W.heap.size W W'):GDig W' g xs:=
  ⟨Nat.lt_of_lt_of_le h.lt hb.size,fun k hk=>(hb.cell (p:=⟨g,k,none⟩) h.lt).trans (h.at0 k hk)⟩
def GV(W:World)(s:Value)(xs:List Nat):Prop:=(xs=[]/\ ∃p c,s=.slice p 0 c)\/ ∃g c,s=.slice (some ⟨g,0,none⟩) xs.length c/\GDig W g xs/\xs.length<=c/\c<=maxLen
theorem GV.below{W W':World}{s:Value}{xs:List Nat}(h:GV W s xs)(hb:Below W.heap.size W W'):GV W' s xs:=
  h.imp id fun⟨g,c,e,t,hc⟩=>⟨g,c,e,t.below hb,hc⟩
theorem GV.slice{W:World}{s:Value}{xs:List Nat}(h:GV W s xs):∃p c,s=.slice p xs.length c/\(xs≠[]-> ∃g,p=some ⟨g,0,none⟩/\GDig W g xs/\xs.length<=c/\c<=maxLen):=by
  rcases h with⟨rfl,p,c,rfl⟩|⟨g,c,rfl,h1,h2⟩
  . exact⟨p,c,rfl,fun h=>absurd rfl h⟩
  exact⟨_,c,rfl,fun _=>⟨g,rfl,h1,h2⟩⟩
def RowI(W:World)(base:Nat)(v:Value)(xs:List Nat):Prop:=W.ownsRow base 3 1 v xs.length (xs.map iCell)
theorem RowI.gv{W:World}{base:Nat}{v:Value}{xs:List Nat}(h:RowI W base v xs):GV W v xs:=by
  by_cases hn:xs=[]
  . subst hn;obtain⟨p,c,e⟩:=row_slice h;exact .inl ⟨rfl,p,c,e⟩
  rcases h.2 with⟨_,h0⟩|⟨g,cap,cur,rfl,hg,hb,hle,hm,hs,ht⟩
  . exact absurd (List.eq_nil_of_length_eq_zero h0) hn
  refine .inr ⟨g,cap,rfl,⟨(Array.getElem?_eq_some_iff.1 hb).1,fun k hk=>?_⟩,hle,hm⟩;obtain⟨g',cap',e0,_,hc⟩:=row1_cell h (by simp) (k:=k) (by simpa using hk)
  injection e0 with e1
  injection e1 with e1
  injection e1 with e1
  subst e1;rw[hc,List.getElem_map]
def RefV(W:World)(v:Value)(n:Nat):Prop:=GV W v (digs B6 n)
theorem RefV.below{W W':World}{s:Value}{n:Nat}(h:RefV W s n)(hb:Below W.heap.size W W'):RefV W' s n:=GV.below h hb
theorem infoI:(Tryz.prog.info? 3).map (fun i=>(i.zero,i.size,i.bytes))=some (some (.int .i64 0),1,8):=by kernel_rfl
theorem one_i(c:Nat):∀u∈[iCell c],u.oneCell'=true:=by
  intro u hu;simp only[List.mem_cons,List.not_mem_nil,or_false]at hu;rw[hu];rfl
theorem all_i(xs:List Nat):∀u∈xs.map iCell,u.oneCell'=true:=by
  intro u hu;obtain⟨x,_,rfl⟩:=List.mem_map.1 hu;rfl
theorem row_empty(W:World)(t:TypeId)(base:Nat)(hb:base<=W.heap.size):(W.alloc (.cells #[] t)).ownsRow base t 1 (.slice (some ⟨W.heap.size,0,none⟩) 0 0) 0 []:=
  ⟨rfl,.inr ⟨W.heap.size,0,#[],rfl,hb,heap_new W _,Nat.le_refl _,Nat.zero_le _,rfl,rfl⟩⟩
set_option maxRecDepth 100000 in
set_option maxHeartbeats 2000000 in
theorem without_any(v:Value)(xs:List Nat)(w:World)(hv:GV w v xs)(hl:xs.length<=1000000):
    Calls Tryz.prog 76 #[v] w fun e w'=> ∃v',e=.returned v'/\GV w' v' (trimD xs)/\Below w.heap.size w w':=by
  obtain⟨i0,hi,hz0,hz1,hz2⟩:=info_parts infoI;obtain⟨p,c,rfl,hpg⟩:=hv.slice;clear hv;go_enter Tryz.func76,Tryz.ntmps76;go_wp2_with fail;go_loop [0] (fun n=> ∃k:Nat,k<=xs.length/\n=.slice p k c/\Hid (trimD xs=trimD (xs.take k))) (fun n=>sliceLen n)
  case atStart=>exact⟨xs.length,Nat.le_refl _,rfl,hid (by rw[List.take_length])⟩
  obtain⟨k,hk,rfl,HT⟩:=hrel
  by_cases hk0:k=0
  . subst hk0;have HE:=hid (show trimD xs=[]from HT.out);go_wp2_with (at_builtin;go_loud (refine wpList_append_two rfl _ _ 32 31 rfl w.heap.size 3 3 i0 _ 8 Tryz.underlying32 Tryz.underlying31 hi hz0 hz1 hz2 rfl _ 0 [] rfl (row_empty w 3 _ (Nat.le_refl _)) p 0 c (([]:List Nat).map iCell) rfl (by simp;try omega) (.inl rfl) (all_i _) (by simp[maxLen];try omega) (by omega) (by simp) ?_;intro v' w2 hown hgr;have hb2:=((Below.refl w.heap.size w).alloc (Nat.le_refl _) _).grown hgr (by simp) (fun k' hk'=>by injection hk' with hk';subst hk';exact Nat.le_refl _)));go_ret;exact⟨_,rfl,by rw[HE.out];exact RowI.gv hown,hb2⟩
  obtain⟨j,rfl⟩:∃j,k=j+1:=⟨k-1,by omega⟩;have hj:j<xs.length:=by omega
  obtain⟨g,rfl,hg,hc1,hc2⟩:=hpg (fun e=>by subst e;simp at hj);have g0:=hg.at0 j hj;unfold iCell at g0;have hgt:(0:Int)<((j+1:Nat):Int):=by omega
  have hgl:=hg.lt
  by_cases hz:xs[j]=0
  . rw[hz]at g0;have HZ:=hid (trim_take_zero hk hz);clear hz;go_wp2;go_round
    case rel=>exact⟨j,by omega,rfl,hid (HT.out.trans HZ.out)⟩
    case measure=>simp[sliceLen]
  have hzi:(((xs[j]:Nat):Int)==0)=false:=by rw[beq_eq_false_iff_ne];omega
  have HE:=hid (HT.out.trans (trim_take_last hk hz));clear hz
  have hcell:∀t,∀i u,((xs.take (j+1)).map iCell)[i]?=some u->(w.alloc (.cells #[] t)).cell? ((⟨g,0,none⟩:Addr).add i)=some u:=by
    intro t i u hu;rw[add_at,((Below.refl w.heap.size w).alloc (Nat.le_refl _) _).cell (p:=⟨g,i,none⟩) hgl];obtain⟨hi',rfl⟩:=List.getElem?_eq_some_iff.1 hu;rw[List.length_map,List.length_take]at hi';rw[hg.at0 i (by omega)];simp
  go_wp2_with (at_builtin;go_loud (refine wpList_append_two rfl _ _ 32 31 rfl w.heap.size 3 3 i0 _ 8 Tryz.underlying32 Tryz.underlying31 hi hz0 hz1 hz2 rfl _ 0 [] rfl (row_empty w 3 _ (Nat.le_refl _)) (some ⟨g,0,none⟩) (j+1) c ((xs.take (j+1)).map iCell) rfl (by simp;try omega) (.inr ⟨_,rfl,hcell _⟩) (all_i _) (by simp[maxLen];try omega) (by omega) (by simp) ?_;intro v' w2 hown hgr;have hb2:=((Below.refl w.heap.size w).alloc (Nat.le_refl _) _).grown hgr (by simp) (fun k' hk'=>by injection hk' with hk';subst hk';exact Nat.le_refl _)));go_ret;refine⟨_,rfl,?_,hb2⟩;rw[HE.out];refine RowI.gv (base:=w.heap.size) ?_;unfold RowI;rw[List.length_take,Nat.min_eq_left hk]
  simpa using hown
theorem RowI.nil(W:World)(base:Nat):RowI W base (.slice none 0 0) []:=⟨rfl,.inl ⟨rfl,rfl⟩⟩
theorem RowI.below{W W':World}{base:Nat}{v:Value}{xs:List Nat}(h:RowI W base v xs)(hb:Below W.heap.size W W'):RowI W' base v xs:=row_kept_low h hb
theorem RowI.push{W:World}{base n:Nat}{v:Value}{os:List Nat}{x:Nat}(h:W.ownsRow base 3 1 v (n+1) (os.map iCell++[iCell x]))(hn:n=os.length):RowI W base v (os++[x]):=by
  subst hn;unfold RowI;rw[List.length_append,List.length_singleton,List.map_append];exact h
structure CarAt(W0:World)(xs:List Nat)(v:Value)(i c:Nat)(wr:World):Prop where
  row:∃os,RowI wr W0.heap.size v os/\os.length=i/\(∀x∈os,x<B6)/\val B6 os+B6^i*c=val B6 (xs.take i)
  old:Below W0.heap.size W0 wr
  cb:c<=100000000000000000
  ib:i<=xs.length\/c*B6^(i-xs.length)<=100000000000000000
  lb:i<=xs.length+3
theorem CarAt.short{W0 wr:World}{xs:List Nat}{v:Value}{i c:Nat}(h:CarAt W0 xs v i c wr)(hg:i<xs.length\/0<c):i<=xs.length+2:=by
  rcases hg with hg|hg
  . omega
  rcases h.ib with h1|h1
  . omega
  refine Nat.le_of_not_lt fun hlt=>?_
  have h2:B6^3<=B6^(i-xs.length):=Nat.pow_le_pow_right (by decide) (by omega);have h3:1*B6^(i-xs.length)<=c*B6^(i-xs.length):=Nat.mul_le_mul_right _ hg;have h4:B6^3=1000000000000000000:=by decide
  omega
theorem car_val{xs os:List Nat}{i c x:Nat}(hv:val B6 os+B6^i*c=val B6 (xs.take i))(ho:os.length=i)(hx:val B6 (xs.take (i+1))=val B6 (xs.take i)+B6^i*x):
    val B6 (os++[(c+x)%1000000])+B6^(i+1)*((c+x)/1000000)=val B6 (xs.take (i+1)):=by
  rw[val_snoc,hx,ho,Nat.pow_succ,Nat.mul_assoc];generalize B6^i=p at*
  have e2:p*((c+x)%1000000)+p*(B6*((c+x)/1000000))=p*c+p*x:=by
    rw[<-Nat.mul_add,b6,Nat.mod_add_div,Nat.mul_add]
  omega
theorem CarAt.step{W0 wr w':World}{xs os:List Nat}{v v':Value}{i c x:Nat}(h:CarAt W0 xs v i c wr)(_hr:RowI wr W0.heap.size v os)(ho:os.length=i)(hb:∀x∈os,x<B6)(hv:val B6 os+B6^i*c=val B6 (xs.take i))
    (hx:val B6 (xs.take (i+1))=val B6 (xs.take i)+B6^i*x) (hxb:x<=100000000000000000) (hx0:xs.length<=i->x=0) (hsh:i<=xs.length+2) (hown:RowI w' W0.heap.size v' (os++[(c+x)%1000000])) (hold:Below W0.heap.size W0 w'):
    CarAt W0 xs v' (i+1) ((c+x)/1000000) w':=by
  have hcb:=h.cb;refine⟨⟨_,hown,by simp[ho],?_,car_val hv ho hx⟩,hold,by omega,?_,by omega⟩
  . intro y hy
    rcases List.mem_append.1 hy with h1|h1
    . exact hb y h1
    simp only[List.mem_cons,List.not_mem_nil,or_false]at h1;rw[h1,b6];omega
  by_cases hi:i<xs.length
  . exact .inl hi
  refine .inr ?_;rw[hx0 (by omega),Nat.add_zero]
  rcases h.ib with h1|h1
  . have:i=xs.length:=by omega
    subst this;rw[show xs.length+1-xs.length=1 by omega,Nat.pow_one,b6];omega
  rw[show i+1-xs.length=(i-xs.length)+1 by omega,Nat.pow_succ,Nat.mul_comm (B6^_), <-Nat.mul_assoc];refine Nat.le_trans (Nat.mul_le_mul_right _ ?_) h1;rw[b6];omega
set_option maxRecDepth 100000 in
set_option maxHeartbeats 2000000 in
theorem carried_any(v:Value)(xs:List Nat)(w:World)(hv:GV w v xs)(hl:xs.length<=900000)(hxb:∀x∈xs,x<=100000000000000000):
    Calls Tryz.prog 75 #[v] w fun e w'=> ∃v',e=.returned v'/\RefV w' v' (val B6 xs)/\Below w.heap.size w w':=by
  obtain⟨i0,hi,hz0,hz1,hz2⟩:=info_parts infoI;obtain⟨p,cp,rfl,hpg⟩:=hv.slice;have HXB:=hid hxb;have HPG:=hid hpg;clear hv hxb hpg;have hat0:CarAt w xs (.slice none 0 0) 0 0 w:=⟨⟨[],RowI.nil w _,rfl,fun x h=>absurd h (List.not_mem_nil),by simp[val]⟩,Below.refl _ _,by omega,.inl (Nat.zero_le _),by omega⟩;go_enter Tryz.func75,Tryz.ntmps75;go_wp2_with fail;go_loopw [3,4,5] (fun o c i wr=> ∃k cn:Nat,i=.int .i64 k/\c=.int .i64 (cn:Int)/\CarAt w xs o k cn wr) (fun _ c i _=>(xs.length-(intOf i).toNat)*1000000000000000000+(intOf c).toNat)
  case atStart=>exact⟨0,0,rfl,rfl,hat0⟩
  clear hat0;obtain⟨k,c,rfl,rfl,hat⟩:=hrel;generalize wr=W1 at hat⊢;generalize u3=o at hat⊢;obtain⟨os,hrow,hol,hob,hov⟩:=hat.row;have hold:=hat.old;have hcb:=hat.cb
  by_cases hlt:k<xs.length
  . obtain⟨g,rfl,hg,_,_⟩:=HPG.out (fun e=>by subst e;simp at hlt);have hg1:=(hg.below hold).at0 k hlt;have hgl:=Nat.lt_of_lt_of_le hg.lt hold.size;have hxk:=HXB.out _ (List.getElem_mem hlt);obtain⟨x,hx⟩:∃x,xs[k]=x:=⟨_,rfl⟩;have hsh:=hat.short (.inl hlt);have HS:=hid (fun v' w'=>hat.step (w':=w') (v':=v') hrow hol hob hov (by rw[val_take_succ hlt,hx]) (hx▸hxk) (fun h=>absurd hlt (by omega)) hsh);rw[hx]at hg1 hxk;unfold iCell at hg1;have hti:(k:Int)<(xs.length:Int):=by omega
    obtain⟨t,ht,ht2⟩:∃t:Nat,c+x=t/\(c:Int)+(x:Int)=(t:Int):=⟨_,rfl,by simp only[Int.natCast_add]⟩;have htb:t<=200000000000000000:=by omega
    rw[ht]at HS;clear hx ht hat hov;go_wp2_with (at_builtin;go_loud (refine wpList_append_own _ rfl _ _ 31 rfl w.heap.size 3 i0 _ 1 8 Tryz.underlying31 hi hz0 hz1 hz2 rfl (by decide) _ _ _ rfl (hrow.alloc _) ⟨W1.heap.size,0,none⟩ 1 1 [iCell (t%1000000)] rfl rfl (cells1_new W1 _ _) (one_i _) (by simp[maxLen];omega) (by omega) (by have:=hold.size;simp;omega) ?_;intro v' w7 hown' hgrow _;have hb7:=row1_step hold hrow (Nat.le_refl _) hold.size hgrow;have hat7:=HS.out v' w7 (RowI.push hown' rfl) hb7));go_roundw
    case rel=>exact⟨k+1,t/1000000,by go_num,rfl,hat7⟩
    case measure=>simp[intOf];omega
  have hge:¬(k:Int)<(xs.length:Int):=by omega
  by_cases hc0:c=0
  . subst hc0;rw[Nat.mul_zero,Nat.add_zero,List.take_of_length_le (by omega)]at hov;have HT:=hid (without_any o os W1 hrow.gv (by have:=hat.lb;omega));rw[<-digs_val b6_2 hob,hov]at HT;go_wp2_with (go_at_call 76;refine HT.out.mono ?_;clear HT;rintro e w3 ⟨v',rfl,hv',hw3⟩);go_ret;exact⟨_,rfl,hv',hold.trans (hw3.mono hold.size)⟩
  have hcg:(0:Int)<(c:Int):=by omega
  have hsh:=hat.short (.inr (by omega));have HS:=hid (fun v' w'=>hat.step (w':=w') (v':=v') (x:=0) hrow hol hob hov (by rw[List.take_of_length_le (by omega),List.take_of_length_le (by omega)];simp) (by omega) (fun _=>rfl) hsh);rw[Nat.add_zero]at HS;clear hat hov;go_wp2_with (at_builtin;go_loud (refine wpList_append_own _ rfl _ _ 31 rfl w.heap.size 3 i0 _ 1 8 Tryz.underlying31 hi hz0 hz1 hz2 rfl (by decide) _ _ _ rfl (hrow.alloc _) ⟨W1.heap.size,0,none⟩ 1 1 [iCell (c%1000000)] rfl rfl (cells1_new W1 _ _) (one_i _) (by simp[maxLen];omega) (by omega) (by have:=hold.size;simp;omega) ?_;intro v' w7 hown' hgrow _;have hb7:=row1_step hold hrow (Nat.le_refl _) hold.size hgrow;have hat7:=HS.out v' w7 (RowI.push hown' rfl) hb7));go_roundw
  case rel=>exact⟨k+1,c/1000000,by go_num,rfl,hat7⟩
  case measure=>simp[intOf];omega
theorem val_map_mul(m:Nat)(xs:List Nat):val B6 (xs.map fun x=>x*m)=val B6 xs*m:=by
  induction xs with
  |nil=>simp[val]
  |cons x xs ih=>simp only[List.map_cons,val,ih];rw[Nat.add_mul,Nat.mul_assoc]
set_option maxRecDepth 100000 in
set_option maxHeartbeats 2000000 in
theorem times_any(v:Value)(n m:Nat)(w:World)(hv:RefV w v n)(hl:(digs B6 n).length<=900000)(hm:m<=4294967296):
    Calls Tryz.prog 128 #[v,.int .i64 (m:Int)] w fun e w'=> ∃v',e=.returned v'/\RefV w' v' (n*m)/\Below w.heap.size w w':=by
  obtain⟨i0,hi,hz0,hz1,hz2⟩:=info_parts infoI;obtain⟨p,cp,rfl,hpg⟩:=GV.slice hv;have HPG:=hid hpg;have HXB:=hid (digs_lt b6_2 n);have HV:=hid (show val B6 ((digs B6 n).map fun x=>x*m)=n*m by rw[val_map_mul,val_digs b6_2]);obtain⟨xs,hxs⟩:∃xs,digs B6 n=xs:=⟨_,rfl⟩;rw[hxs]at HPG HXB HV hl⊢;clear hv hpg hxs;have hrow0:RowI w w.heap.size (.slice none 0 0) ((xs.take 0).map fun x=>x*m):=RowI.nil w _;go_enter Tryz.func128,Tryz.ntmps128;go_wp2_with fail;go_loopw [5,6] (fun o i wr=> ∃k:Nat,k<=xs.length/\i=.int .i64 k/\RowI wr w.heap.size o ((xs.take k).map fun x=>x*m)/\Below w.heap.size w wr) (fun _ i _=>xs.length-(intOf i).toNat)
  case atStart=>exact⟨0,Nat.zero_le _,rfl,hrow0,Below.refl _ _⟩
  clear hrow0;obtain⟨k,hk,rfl,hrow,hold⟩:=hrel;generalize wr=W1 at hrow hold⊢;generalize u5=o at hrow⊢
  by_cases hlt:k<xs.length
  . obtain⟨g,rfl,hg,_,_⟩:=HPG.out (fun e=>by subst e;simp at hlt);have hg1:=(hg.below hold).at0 k hlt;have hgl:=Nat.lt_of_lt_of_le hg.lt hold.size;have hxk:=HXB.out _ (List.getElem_mem hlt);have HN:=hid (show((xs.take k).map fun x=>x*m)++[xs[k]*m]=(xs.take (k+1)).map fun x=>x*m by rw[List.take_succ_eq_append_getElem hlt,List.map_append];rfl);obtain⟨x,hx⟩:∃x,xs[k]=x:=⟨_,rfl⟩;rw[hx]at hg1 hxk HN;unfold iCell at hg1;rw[b6]at hxk;have hti:(k:Int)<(xs.length:Int):=by omega
    have hmb:x*m<=1000000*4294967296:=Nat.mul_le_mul (by omega) hm;obtain⟨t,ht,ht2⟩:∃t:Nat,x*m=t/\(x:Int)*(m:Int)=(t:Int):=⟨_,rfl,by simp only[Int.natCast_mul]⟩;rw[ht]at HN hmb;have hln:((xs.take k).map fun x=>x*m).length=k:=by simp;omega
    clear hx ht;go_wp2_with (at_builtin;go_loud (refine wpList_append_own _ rfl _ _ 31 rfl w.heap.size 3 i0 _ 1 8 Tryz.underlying31 hi hz0 hz1 hz2 rfl (by decide) _ _ _ rfl (hrow.alloc _) ⟨W1.heap.size,0,none⟩ 1 1 [iCell t] rfl rfl (cells1_new W1 _ _) (one_i _) (by rw[hln];simp[maxLen];omega) (by rw[hln];omega) (by have:=hold.size;simp;omega) ?_;intro v' w7 hown' hgrow _;have hb7:=row1_step hold hrow (Nat.le_refl _) hold.size hgrow;have hr7:=RowI.push hown' rfl;rw[HN.out]at hr7));go_roundw
    case rel=>exact⟨k+1,by omega,by go_num,hr7,hb7⟩
    case measure=>simp[intOf];omega
  obtain rfl:k=xs.length:=by omega
  rw[List.take_length]at hrow
  have HT:=hid (carried_any o _ W1 hrow.gv (by simpa using hl) (by
    intro y hy;obtain⟨x,hx,rfl⟩:=List.mem_map.1 hy;have h1:=HXB.out x hx;rw[b6]at h1;have:x*m<=1000000*4294967296:=Nat.mul_le_mul (by omega) hm;omega))
  rw[HV.out]at HT;go_wp2_with (go_at_call 75;refine HT.out.mono ?_;clear HT;rintro e w3 ⟨v',rfl,hv',hw3⟩);go_ret;exact⟨_,rfl,hv',hold.trans (hw3.mono hold.size)⟩
set_option maxRecDepth 100000 in
set_option maxHeartbeats 2000000 in
theorem rof_any(n:Nat)(w:World)(hn:n<18446744073709551616):
    Calls Tryz.prog 74 #[.int .u64 (n:Int)] w fun e w'=> ∃v',e=.returned v'/\RefV w' v' n/\Below w.heap.size w w':=by
  obtain⟨i0,hi,hz0,hz1,hz2⟩:=info_parts infoI;go_enter Tryz.func74,Tryz.ntmps74;go_wp2_with fail;go_loopw [0,3] (fun nv o wr=> ∃(m:Nat) (os:List Nat),nv=.int .u64 (m:Int)/\m<18446744073709551616/\RowI wr w.heap.size o os/\Hid ((∀x∈os,x<B6)/\val B6 os+B6^os.length*m=n)/\os.length<=4/\(0<m->os.length<=3)/\Below w.heap.size w wr) (fun nv _ _=>(intOf nv).toNat)
  case atStart=>exact⟨n,[],rfl,hn,RowI.nil w _,hid ⟨fun x h=>absurd h (List.not_mem_nil),by simp[val]⟩,by simp,by simp,Below.refl _ _⟩
  obtain⟨m,os,rfl,hm,hrow,HI,h4,h3,hold⟩:=hrel;generalize wr=W1 at hrow hold⊢;generalize u3=o at hrow⊢
  by_cases hm0:m=0
  . subst hm0;have hov:=HI.out.2;rw[Nat.mul_zero,Nat.add_zero]at hov;have HT:=hid (without_any o os W1 hrow.gv (by omega));rw[<-digs_val b6_2 HI.out.1,hov]at HT;go_wp2_with (go_at_call 76;refine HT.out.mono ?_;clear HT;rintro e w3 ⟨v',rfl,hv',hw3⟩);go_ret;exact⟨_,rfl,hv',hold.trans (hw3.mono hold.size)⟩
  have hmp:(0:Int)<(m:Int):=by omega
  have h3':=h3 (by omega)
  have HN:=hid (show(∀x∈os++[m%1000000],x<B6)/\val B6 (os++[m%1000000])+B6^(os++[m%1000000]).length*(m/1000000)=n by
    refine⟨fun y hy=>?_,?_⟩
    . rcases List.mem_append.1 hy with h1|h1
      . exact HI.out.1 y h1
      simp only[List.mem_cons,List.not_mem_nil,or_false]at h1;rw[h1,b6];omega
    rw[val_snoc,List.length_append,List.length_singleton,Nat.pow_succ,Nat.mul_assoc, <-HI.out.2,Nat.add_assoc, <-Nat.mul_add,b6,Nat.mod_add_div])
  have hlast:0<m/1000000->(os++[m%1000000]).length<=3:=fun h=>by
    have h1:=HI.out.2;refine Nat.le_of_not_lt fun hlt=>?_
    rw[List.length_append,List.length_singleton]at hlt;have h5:os.length=3:=by omega
    rw[h5,show B6^3=1000000000000000000 by decide]at h1;omega
  go_wp2_with (at_builtin;go_loud (refine wpList_append_own _ rfl _ _ 31 rfl w.heap.size 3 i0 _ 1 8 Tryz.underlying31 hi hz0 hz1 hz2 rfl (by decide) _ _ _ rfl (hrow.alloc _) ⟨W1.heap.size,0,none⟩ 1 1 [iCell (m%1000000)] rfl rfl (cells1_new W1 _ _) (one_i _) (by simp[maxLen];omega) (by omega) (by have:=hold.size;simp;omega) ?_;intro v' w7 hown' hgrow _;have hb7:=row1_step hold hrow (Nat.le_refl _) hold.size hgrow;have hr7:=RowI.push hown' rfl));go_roundw
  case rel=>exact⟨m/1000000,_,rfl,by omega,hr7,HN,by rw[List.length_append,List.length_singleton];omega,hlast,hb7⟩
  case measure=>
    show((m:Int)/1000000).toNat<((m:Int)).toNat
    omega
def ArrI(W:World)(D:Nat)(xs:List Nat):Prop:=W.heap[D]?=some (.cells (xs.map iCell).toArray 3 (0,0))
theorem ArrI.lt{W:World}{D:Nat}{xs:List Nat}(h:ArrI W D xs):D<W.heap.size:=(Array.getElem?_eq_some_iff.1 h).1
theorem ArrI.cell{W:World}{D:Nat}{xs:List Nat}(h:ArrI W D xs)(k:Nat)(hk:k<xs.length):W.cell? ⟨D,k,none⟩=some (.int .i64 (xs[k]:Int)):=by
  unfold World.cell?;rw[show W.heap[(⟨D,k,none⟩:Addr).block]?=_ from h];simp[hk,iCell]
theorem ArrI.free{W:World}{D:Nat}{xs:List Nat}(h:ArrI W D xs):∀o,W.frozen? ⟨D,o,none⟩=false:=by
  intro o;unfold World.frozen?;rw[show W.heap[(⟨D,o,none⟩:Addr).block]?=_ from h];simp
theorem ArrI.below{W W':World}{D:Nat}{xs:List Nat}(h:ArrI W D xs)(hb:Below W.heap.size W W'):ArrI W' D xs:=(hb.block _ h.lt).trans h
theorem ArrI.store{W:World}{D:Nat}{xs:List Nat}(h:ArrI W D xs)(k v:Nat):ArrI (W.setCell ⟨D,k,none⟩ (.int .i64 (v:Int))) D (xs.set k v):=by
  unfold ArrI;rw[heap_setCell_at h];simp[List.map_set,iCell]
theorem ArrI.gv{W:World}{D:Nat}{xs:List Nat}(h:ArrI W D xs)(hl:xs.length<=maxLen):GV W (.slice (some ⟨D,0,none⟩) xs.length xs.length) xs:=
  .inr ⟨D,_,rfl,⟨h.lt,h.cell⟩,Nat.le_refl _,hl⟩
theorem ari_made{W:World}{base g n:Nat}(h:W.ownsRow base 3 1 (.slice (some ⟨g,0,none⟩) n n) n (madeCells (Value.int .i64 0).cells (n*1)).toList):ArrI W g (List.replicate n 0):=by
  rcases h.2 with⟨e,_⟩|⟨g',cap,cur,e,_,hg,_,_,hs,ht⟩
  . cases e
  injection e with e1 _ e3
  injection e1 with e1
  injection e1 with e1
  subst e1 e3
  have h1:cur.toList=List.replicate n (Value.int .i64 0):=by
    have h2:(madeCells (Value.int .i64 0).cells (n*1)).toList=List.replicate n (.int .i64 0):=by
      rw[Nat.mul_one];exact toList_madeCells_one _ n
    rw[h2,List.take_of_length_le (by rw[Array.length_toList,hs];omega)]at ht;exact ht
  unfold ArrI;rw[hg]
  congr 2
  rw[<-Array.toArray_toList (xs:=cur),h1,List.map_replicate];rfl
theorem val_set_add{B:Nat}:∀(ys:List Nat) (k x:Nat) (h:k<ys.length),val B (ys.set k (ys[k]+x))=val B ys+B^k*x
  |y::ys,0,x,_=>by simp only[List.set_cons_zero,val,List.getElem_cons_zero,Nat.pow_zero];omega
  | y::ys,k+1,x,h=>by
    simp only[List.set_cons_succ,val,List.getElem_cons_succ,val_set_add ys k x (by simpa using h),Nat.pow_succ];rw[Nat.mul_add,Nat.mul_comm (B^k) B,Nat.mul_assoc];omega
structure RAdd(W0:World)(D L V M:Nat)(xs:List Nat)(k:Nat)(wr:World):Prop where
  arr:∃ys,ArrI wr D ys/\ys.length=L/\(∀y∈ys,y<=M+1000000*k)/\val B6 ys=V+val B6 (xs.take k)
  old:Below D W0 wr
theorem RAdd.step{W0 wr w':World}{D L V M:Nat}{xs ys:List Nat}{k x y:Nat}(h:RAdd W0 D L V M xs k wr)(ha:ArrI w' D ys)(hb:Below wr.heap.size wr w')(hyl:ys.length=L)(hym:∀y∈ys,y<=M+1000000*k)(hyv:val B6 ys=V+val B6 (xs.take k))
    (hk:k<xs.length) (hL:xs.length<=L) (hx:xs[k]=x) (hx1:x<1000000) (hy:ys[k]'(by omega)=y):RAdd W0 D L V M xs (k+1) (w'.setCell ⟨D,k,none⟩ (.int .i64 ((y+x:Nat):Int))):=by
  have hD:D<=wr.heap.size:=by
    obtain⟨zs,h1,_⟩:=h.arr;exact Nat.le_of_lt h1.lt
  refine⟨⟨ys.set k (y+x),ha.store _ _,by simpa using hyl,fun z hz=>?_,?_⟩,(h.old.trans (hb.mono hD)).setCell (p:=⟨D,k,none⟩) (Nat.le_refl _) _⟩
  . rcases List.mem_or_eq_of_mem_set hz with h1|h1
    . have:=hym z h1;omega
    have:=hym y (hy▸List.getElem_mem _);omega
  rw[<-hy,val_set_add ys k x (by omega),hyv,val_take_succ hk,hx];omega
set_option maxRecDepth 100000 in
set_option maxHeartbeats 4000000 in
theorem radd_any(v u:Value)(n m:Nat)(w:World)(hv:RefV w v n)(hu:RefV w u m)(h1:(digs B6 n).length<=100000)(h2:(digs B6 m).length<=100000):
    Calls Tryz.prog 46 #[v,u] w fun e w'=> ∃v',e=.returned v'/\RefV w' v' (n+m)/\Below w.heap.size w w':=by
  obtain⟨i0,hi,hz0,hz1,hz2⟩:=info_parts infoI;obtain⟨p,cp,rfl,hpg⟩:=GV.slice hv;obtain⟨q,cq,rfl,hqg⟩:=GV.slice hu;have HPG:=hid hpg;have HQG:=hid hqg;have HXB:=hid (digs_lt b6_2 n);have HYB:=hid (digs_lt b6_2 m);have HVN:=hid (val_digs b6_2 n);have HVM:=hid (val_digs b6_2 m);obtain⟨xs,hxs⟩:∃xs,digs B6 n=xs:=⟨_,rfl⟩;obtain⟨ys,hys⟩:∃ys,digs B6 m=ys:=⟨_,rfl⟩;rw[hxs]at HPG HXB HVN h1⊢;rw[hys]at HQG HYB HVM h2⊢;clear hv hpg hxs hu hqg hys;obtain⟨L,hL,hL1,hL2,hL3⟩:∃L:Nat,max (xs.length:Int) (ys.length:Int)=(L:Int)/\xs.length<=L/\ys.length<=L/\L<=100000:=⟨max xs.length ys.length,by omega,by omega,by omega,by omega⟩;go_enter Tryz.func46,Tryz.ntmps46;go_upto_region 2 with(at_make;go_loud (refine wpList_make_full _ rfl _ _ _ rfl w.heap.size 3 i0 _ 1 Tryz.underlying31 hi hz0 hz1 _ _ _ _ L rfl rfl (by simp) (by simp) (by rw[hz2];omega) (by unfold maxLen;omega) (Nat.le_refl _) ?_;intro w2 hown hgr;have hb2:Below w.heap.size w w2:=(Below.refl _ w).grown hgr (Nat.le_refl _) (by simp);have hA:=ari_made hown;clear hown hgr));clear hL;have hat0:RAdd w w.heap.size L 0 0 xs 0 w2:=⟨⟨_,hA,by simp,fun y hy=>by rw[List.eq_of_mem_replicate hy];omega,by simp[val,val_replicate]⟩,hb2⟩;clear hA hb2;go_wp2_with fail;go_loopw [6] (fun i wr=> ∃k:Nat,k<=xs.length/\i=.int .i64 k/\RAdd w w.heap.size L 0 0 xs k wr) (fun i _=>xs.length-(intOf i).toNat)
  case atStart=>exact⟨0,Nat.zero_le _,rfl,hat0⟩
  clear hat0;obtain⟨k,hk,rfl,hat⟩:=hrel;generalize wr=W1 at hat⊢;have hold:=hat.old;obtain⟨zs,hzs,hzl,hzm,hzv⟩:=hat.arr
  by_cases hlt:k<xs.length
  . obtain⟨g,rfl,hg,_,_⟩:=HPG.out (fun e=>by subst e;simp at hlt);have hg1:=(hg.below hold).at0 k hlt;have hgl:=Nat.lt_of_lt_of_le hg.lt hold.size;have hxk:=HXB.out _ (List.getElem_mem hlt);have hzk:k<zs.length:=by omega
    have hz1:=hzs.cell k hzk;have hzm1:=hzm _ (List.getElem_mem hzk);have hfr:=hzs.free;have hDl:=hzs.lt;have hti:(k:Int)<(xs.length:Int):=by omega
    have HS:=hid (fun w' (hb:Below W1.heap.size W1 w')=>hat.step (hzs.below hb) hb hzl hzm hzv hlt hL1 rfl hxk rfl);obtain⟨x,hx⟩:∃x,xs[k]=x:=⟨_,rfl⟩;obtain⟨z,hz⟩:∃z,zs[k]=z:=⟨_,rfl⟩;rw[hx]at hg1 hxk HS;rw[hz]at hz1 hzm1 HS;unfold iCell at hg1;rw[b6]at hxk;have hkL:(k:Int)<(L:Int):=by omega
    clear hx hz hzv hat;go_upto_region 5 with(fail);refine wp_region_staged (fun w'=>Below W1.heap.size W1 w') [0,0,0,1,0,0,0,1,0,0,2] (by kernel_rfl) (by kernel_rfl) (by kernel_rfl) (by exact(Below.refl _ _).drew) ?_
    iterate 3 (refine zs0 ?_)
    refine zs2 ?_
    iterate 3 (refine zs0 ?_)
    refine zs2 ?_
    iterate 2 (refine zs0 ?_)
    apply lexS (fun w'=>RAdd w w.heap.size L 0 0 xs (k+1) w') rfl
    . intro w' hw';have c0:=(hzs.below hw').cell k hzk;have f0:=(hzs.below hw').free;go_simp;exact⟨rfl,HS.out w' hw'⟩
    simp only[Act.put];refine lexEnd (fun W5 hw5=>?_);go_wp2;go_roundw
    case rel=>exact⟨k+1,by omega,by go_num,hw5⟩
    case measure=>simp[intOf];omega
  obtain rfl:k=xs.length:=by omega
  skip
  have hat1:RAdd w w.heap.size L n (1000000*xs.length) ys 0 W1:=⟨⟨zs,hzs,hzl,fun y hy=>by have:=hzm y hy;omega,by rw[hzv,List.take_length,HVN.out];simp[val]⟩,hold⟩;clear hat hzs hzl hzm hzv hold;go_wp2_with fail;go_loopw [7] (fun i wr=> ∃k:Nat,k<=ys.length/\i=.int .i64 k/\RAdd w w.heap.size L n (1000000*xs.length) ys k wr) (fun i _=>ys.length-(intOf i).toNat)
  case atStart=>exact⟨0,Nat.zero_le _,rfl,hat1⟩
  clear hat1;obtain⟨k,hk,rfl,hat⟩:=hrel;generalize wr=W2 at hat⊢;have hold:=hat.old;obtain⟨zs,hzs,hzl,hzm,hzv⟩:=hat.arr
  by_cases hlt:k<ys.length
  . obtain⟨g,rfl,hg,_,_⟩:=HQG.out (fun e=>by subst e;simp at hlt);have hg1:=(hg.below hold).at0 k hlt;have hgl:=Nat.lt_of_lt_of_le hg.lt hold.size;have hxk:=HYB.out _ (List.getElem_mem hlt);have hzk:k<zs.length:=by omega
    have hz1:=hzs.cell k hzk;have hzm1:=hzm _ (List.getElem_mem hzk);have hfr:=hzs.free;have hDl:=hzs.lt;have hti:(k:Int)<(ys.length:Int):=by omega
    have HS:=hid (fun w' (hb:Below W2.heap.size W2 w')=>hat.step (hzs.below hb) hb hzl hzm hzv hlt hL2 rfl hxk rfl);obtain⟨x,hx⟩:∃x,ys[k]=x:=⟨_,rfl⟩;obtain⟨z,hz⟩:∃z,zs[k]=z:=⟨_,rfl⟩;rw[hx]at hg1 hxk HS;rw[hz]at hz1 hzm1 HS;unfold iCell at hg1;rw[b6]at hxk;have hkL:(k:Int)<(L:Int):=by omega
    clear hx hz hzv hat;go_upto_region 9 with(fail);refine wp_region_staged (fun w'=>Below W2.heap.size W2 w') [0,0,0,1,0,0,0,1,0,0,2] (by kernel_rfl) (by kernel_rfl) (by kernel_rfl) (by exact(Below.refl _ _).drew) ?_
    iterate 3 (refine zs0 ?_)
    refine zs2 ?_
    iterate 3 (refine zs0 ?_)
    refine zs2 ?_
    iterate 2 (refine zs0 ?_)
    apply lexS (fun w'=>RAdd w w.heap.size L n (1000000*xs.length) ys (k+1) w') rfl
    . intro w' hw';have c0:=(hzs.below hw').cell k hzk;have f0:=(hzs.below hw').free;go_simp;exact⟨rfl,HS.out w' hw'⟩
    simp only[Act.put];refine lexEnd (fun W5 hw5=>?_);go_wp2;go_roundw
    case rel=>exact⟨k+1,by omega,by go_num,hw5⟩
    case measure=>simp[intOf];omega
  obtain rfl:k=ys.length:=by omega
  skip
  rw[List.take_length,HVM.out]at hzv;have HT:=hid (carried_any _ zs W2 (hzs.gv (by unfold maxLen;omega)) (by omega) (fun y hy=>by have:=hzm y hy;omega));rw[hzv,hzl]at HT;go_wp2_with (go_at_call 75;refine HT.out.mono ?_;clear HT;rintro e w3 ⟨v',rfl,hv',hw3⟩);go_ret;exact⟨_,rfl,hv',hold.trans (hw3.mono hold.size)⟩
def InV(W:World)(s:Value)(ds:List Nat):Prop:=(ds=[]/\ ∃p c,s=.slice p 0 c)\/ ∃b off c,s=.slice (some ⟨b,off,none⟩) ds.length c/\b<W.heap.size/\ ∀k (h:k<ds.length),W.cell? ⟨b,off+k,none⟩=some (.int .u32 (ds[k]:Int))
theorem InV.below{W W':World}{s:Value}{ds:List Nat}(h:InV W s ds)(hb:Below W.heap.size W W'):InV W' s ds:=
  h.imp id fun⟨b,o,c,e,h1,h2⟩=>⟨b,o,c,e,Nat.lt_of_lt_of_le h1 hb.size,fun k hk=>(hb.cell (p:=⟨b,o+k,none⟩) h1).trans (h2 k hk)⟩
theorem InV.slice{W:World}{s:Value}{ds:List Nat}(h:InV W s ds):∃p c,s=.slice p ds.length c/\(ds≠[]-> ∃b off,p=some ⟨b,off,none⟩/\b<W.heap.size/\ ∀k (h:k<ds.length),W.cell? ⟨b,off+k,none⟩=some (.int .u32 (ds[k]:Int))):=by
  rcases h with⟨rfl,p,c,rfl⟩|⟨b,off,c,rfl,h1,h2⟩
  . exact⟨p,c,rfl,fun h=>absurd rfl h⟩
  exact⟨_,c,rfl,fun _=>⟨b,off,rfl,h1,h2⟩⟩
theorem digs6_len{n L:Nat}(h:n<B32^L):(digs B6 n).length<=2*L:=by
  refine digs_len_le b6_2 _ _ (Nat.lt_of_lt_of_le h ?_);have h1:B32^L<=(B6^2)^L:=Nat.pow_le_pow_left (by decide) L
  rwa [<-Nat.pow_mul]at h1
theorem RefV.nil(W:World)(t:TypeId):RefV (W.alloc (.cells #[] t)) (.slice (some ⟨W.heap.size,0,none⟩) 0 0) 0:=.inl ⟨digs_zero,_,_,rfl⟩
def decE(n:Nat):List UInt8:=if n=0 then[]else decDigits n
theorem decE_step{q:Nat}(h:q≠0):decE q=decE (q/10)++[chr (q%10)]:=by
  unfold decE;rw[if_neg h]
  by_cases h1:q<10
  . rw[dec_small h1,Nat.div_eq_of_lt h1,if_pos rfl,Nat.mod_eq_of_lt h1];rfl
  rw[dec_big h1,if_neg (by omega)]
theorem digs_at:∀(i n:Nat) (h:i<(digs B6 n).length),(digs B6 n)[i]=n/B6^i%B6
  | 0,n,h=>by
    have hn:n≠0:=fun e=>by subst e;rw[digs_zero]at h;cases h
    simp only[digs_pos b6_2 hn,List.getElem_cons_zero,Nat.pow_zero,Nat.div_one]
  | i+1,n,h=>by
    have hn:n≠0:=fun e=>by subst e;rw[digs_zero]at h;cases h
    have h2:i<(digs B6 (n/B6)).length:=by rw[digs_pos b6_2 hn]at h;simpa using h
    have ih:=digs_at i (n/B6) h2;simp only[digs_pos b6_2 hn,List.getElem_cons_succ];rw[ih,Nat.div_div_eq_div_mul,Nat.pow_succ,Nat.mul_comm]
theorem digs_over{i n:Nat}:n/B6^i≠0↔i<(digs B6 n).length:=by
  constructor
  . intro h;refine digs_len_ge b6_2 i n ?_;exact Nat.le_of_not_lt fun hlt=>h (Nat.div_eq_of_lt hlt)
  intro h h0
  have:n<B6^i:=Nat.lt_of_not_le fun hle=>by
    have:=Nat.div_pos hle (Nat.pow_pos (by decide:0<B6));omega
  have:=digs_len_le b6_2 i n this;omega
def Wrote(n q:Nat)(s:ByteArray):Prop:=decE n=decE q++s.data.toList
theorem Wrote.size{n q L:Nat}{s:ByteArray}(h:Wrote n q s)(hL:(decE n).length<=L):s.size<=L:=by
  unfold Wrote at h;rw[h,List.length_append,str_len]at hL;omega
theorem Wrote.step{n q:Nat}{s:ByteArray}(h:Wrote n q s)(hq:q≠0):Wrote n (q/10) (⟨#[chr (q%10)]⟩++s):=by
  unfold Wrote at h⊢;rw[h,decE_step hq,Go.Joins.data_append,List.append_assoc]
theorem conv_one(W:World)(d:Nat)(hd:d<10):(convert 138 9 (.slice (some ⟨W.heap.size,0,none⟩) 1 1)).run Tryz.prog (W.alloc (.cells #[.int .u8 (48+(d:Int))] 5))=.ok (.string ⟨#[chr d]⟩) (W.alloc (.cells #[.int .u8 (48+(d:Int))] 5)):=
  run_convert_bytes_back _ _ _ 5 ⟨W.heap.size,0,none⟩ 1 [chr d] Tryz.underlying138 Tryz.underlying5 Tryz.underlying9 (fun j hj=>by
    have:j=0:=by simpa using hj
    subst this;rw[add_at,cell_box1 (heap_new W _)];simp only[List.getElem_cons_zero,chr_nat hd];rfl)
theorem group_mod(M k:Nat)(hk:k<6):M%1000000/10^k%10=M/10^k%10:=by
  match k,hk with
  |0,_=>simp only[Nat.pow_zero];omega
  |1,_=>rw[show 10^1=10 from rfl];omega
  |2,_=>rw[show 10^2=100 from rfl];omega
  |3,_=>rw[show 10^3=1000 from rfl];omega
  |4,_=>rw[show 10^4=10000 from rfl];omega
  |5,_=>rw[show 10^5=100000 from rfl];omega
theorem group_ne{M k G:Nat}(hk:k<6)(hG:G=M%1000000/10^k)(h:M/1000000≠0\/0<G):M/10^k≠0:=by
  have hp:0<10^k:=Nat.pow_pos (by decide);have hle:10^k<=10^6:=Nat.pow_le_pow_right (by decide) (by omega);have h6:10^6=1000000:=rfl
  have:10^k<=M:=by
    rcases h with h|h
    . have:1000000<=M:=Nat.le_of_not_lt fun h'=>h (Nat.div_eq_of_lt h')
      omega
    rw[hG]at h;have:10^k<=M%1000000:=Nat.le_of_not_lt fun h'=>by rw[Nat.div_eq_of_lt h']at h;omega
    have:=Nat.mod_le M 1000000;omega
  have:=Nat.div_pos this hp;omega
theorem group_end{M k G q:Nat}(hk:k<=6)(hG:G=M%1000000/10^k)(hq:q=M/10^k)(h:¬(k<6/\(M/1000000≠0\/0<G))):q=M/1000000:=by
  by_cases h6:k=6
  . rw[hq,h6]
  have h7:M/1000000=0:=Decidable.byContradiction fun h'=>h ⟨by omega,.inl h'⟩
  have h8:G=0:=Decidable.byContradiction fun h'=>h ⟨by omega,.inr (by omega)⟩
  have h9:M%1000000=M:=Nat.mod_eq_of_lt (by omega);rw[h9]at hG;rw[h7,hq, <-hG,h8]
set_option maxRecDepth 100000 in
set_option maxHeartbeats 4000000 in
theorem rtext_any(v:Value)(n:Nat)(w:World)(hv:RefV w v n)(hl:(digs B6 n).length<=100000)(hd:(decDigits n).length<=10000000):
    Calls Tryz.prog 56 #[v] w fun e w'=>e=.returned (.string ⟨(decDigits n).toArray⟩)/\Below w.heap.size w w':=by
  obtain⟨p,cp,rfl,hpg⟩:=GV.slice hv;have HPG:=hid hpg
  by_cases h0:n=0
  . subst h0;rw[digs_zero,dec_small (by omega)];clear hv hpg HPG hl hd;go_enter Tryz.func56,Tryz.ntmps56;go_wp2;go_ret;exact⟨rfl,Below.refl _ _⟩
  have hpos:0<(digs B6 n).length:=List.length_pos_iff.2 fun e=>h0 ((digs_eq_nil b6_2).1 e)
  have hne:(((digs B6 n).length:Int)==0)=false:=by rw[beq_eq_false_iff_ne];omega
  have HAT:=hid (fun i h=>digs_at i n h);have HOV:=hid (fun i=>digs_over (i:=i) (n:=n));have HE:=hid (show decE n=decDigits n from if_neg h0);have HDL:=hid hd;obtain⟨xs,hxs⟩:∃xs,digs B6 n=xs:=⟨_,rfl⟩;rw[hxs]at HPG HAT hpos hl hne HOV⊢;clear hv hpg hxs h0 hd;go_enter Tryz.func56,Tryz.ntmps56;go_wp2_with fail;go_loopw [3,4] (fun sv i wr=> ∃(k:Nat) (s:ByteArray),k<=xs.length/\i=.int .i64 k/\sv=.string s/\Hid (Wrote n (n/B6^k) s)/\Below w.heap.size w wr) (fun _ i _=>xs.length-(intOf i).toNat)
  case atStart=>exact⟨0,_,Nat.zero_le _,rfl,rfl,hid (by rw[Nat.pow_zero,Nat.div_one];unfold Wrote;simp),Below.refl _ _⟩
  obtain⟨i,s,hi,rfl,rfl,HW,hold⟩:=hrel;generalize wr=W1 at hold⊢
  by_cases hlt:i<xs.length
  . obtain⟨g,rfl,hg,_,_⟩:=HPG.out (fun e=>by subst e;simp at hlt);have hg1:=(hg.below hold).at0 i hlt;have hgl:=Nat.lt_of_lt_of_le hg.lt hold.size;rw[HAT.out i hlt]at hg1;unfold iCell at hg1;have hM:=(HOV.out i).2 hlt;have hM1:=HOV.out (i+1);rw[Nat.pow_succ, <-Nat.div_div_eq_div_mul,b6]at hM1;rw[b6]at hg1;have HNX:=hid (show n/B6^(i+1)=n/B6^i/1000000 by rw[Nat.pow_succ, <-Nat.div_div_eq_div_mul,b6]);obtain⟨M,hMM⟩:∃M,n/B6^i=M:=⟨_,rfl⟩;rw[b6]at HNX hMM HW;rw[hMM]at hg1 HNX HW;have hM':M≠0:=by rw[b6,hMM]at hM;exact hM
    have hM1':M/1000000≠0↔i+1<xs.length:=by rw[hMM]at hM1;exact hM1
    clear hM hM1 hMM;have hti:(i:Int)<(xs.length:Int):=by omega
    have hgm:0<=(M:Int)%1000000:=by omega
    go_upto_region 9 with(fail);go_loopw [3,5,6] (fun sv gv kv wr=> ∃(k G q:Nat) (s:ByteArray),k<=6/\kv=.int .i64 k/\gv=.int .i64 (G:Int)/\sv=.string s/\Hid (G=M%1000000/10^k/\q=M/10^k)/\Hid (Wrote n q s)/\Below w.heap.size w wr) (fun _ _ kv _=>6-(intOf kv).toNat)
    case atStart=>exact⟨0,M%1000000,M,s,by omega,rfl,rfl,rfl,hid (by simp),HW,hold⟩
    obtain⟨k,G,q,s2,hk6',rfl,rfl,rfl,HGQ,HW2,hold2⟩:=hrel;generalize wr=W2 at hold2⊢;obtain⟨hG,hq⟩:=HGQ.out;have hGb:G<1000000:=by rw[hG];exact Nat.lt_of_le_of_lt (Nat.div_le_self _ _) (by omega)
    by_cases hgo:k<6/\(i+1<xs.length\/0<G)
    . obtain⟨hk6,hgo2⟩:=hgo
      have hq0:q≠0:=by
        rw[hq];exact group_ne hk6 hG (hgo2.imp hM1'.2 id)
      by_cases hlast:i+1<xs.length
      . have hli:(i:Int)<(xs.length:Int)-1:=by omega
        have HS:=hid (HW2.out.step hq0);have hsz:=HW2.out.size (by rw[HE.out];exact HDL.out);have hGm:=group_mod M k hk6;rw[<-hG, <-hq]at hGm;have HG2:=hid (show G/10=M%1000000/10^(k+1) by rw[hG,Nat.div_div_eq_div_mul,Nat.pow_succ]);have HQ2:=hid (show q/10=M/10^(k+1) by rw[hq,Nat.div_div_eq_div_mul,Nat.pow_succ]);rw[<-hGm]at HS;obtain⟨c1,hc1⟩:∃c1,(⟨#[chr (G%10)]⟩:ByteArray)=c1:=⟨_,rfl⟩;rw[hc1]at HS;have hcv:=conv_one W2 (G%10) (by omega);rw[hc1]at hcv;have hc1s:c1.size=1:=by rw[<-hc1];rfl
        have hsum:c1.size+s2.size<=9223372036854775807:=by omega
        have ecv:((G%10:Nat):Int)=(G:Int)%10:=rfl;rw[ecv]at hcv;have hk6i:(k:Int)<6:=by omega
        clear hGm hq hG hc1 ecv hc1s;go_wp2;go_roundw
        case rel=>exact⟨k+1,G/10,q/10,_,by omega,by go_num,rfl,rfl,hid ⟨HG2.out,HQ2.out⟩,HS,hold2.alloc hold2.size _⟩
        case measure=>simp[intOf];omega
      have hli:¬(i:Int)<(xs.length:Int)-1:=by omega
      have hGi:(0:Int)<(G:Int):=by omega
      have HS:=hid (HW2.out.step hq0);have hsz:=HW2.out.size (by rw[HE.out];exact HDL.out);have hGm:=group_mod M k hk6;rw[<-hG, <-hq]at hGm;have HG2:=hid (show G/10=M%1000000/10^(k+1) by rw[hG,Nat.div_div_eq_div_mul,Nat.pow_succ]);have HQ2:=hid (show q/10=M/10^(k+1) by rw[hq,Nat.div_div_eq_div_mul,Nat.pow_succ]);rw[<-hGm]at HS;obtain⟨c1,hc1⟩:∃c1,(⟨#[chr (G%10)]⟩:ByteArray)=c1:=⟨_,rfl⟩;rw[hc1]at HS;have hcv:=conv_one W2 (G%10) (by omega);rw[hc1]at hcv;have hc1s:c1.size=1:=by rw[<-hc1];rfl
      have hsum:c1.size+s2.size<=9223372036854775807:=by omega
      have ecv:((G%10:Nat):Int)=(G:Int)%10:=rfl;rw[ecv]at hcv;have hk6i:(k:Int)<6:=by omega
      clear hGm hq hG hc1 ecv hc1s;go_wp2;go_roundw
      case rel=>exact⟨k+1,G/10,q/10,_,by omega,by go_num,rfl,rfl,hid ⟨HG2.out,HQ2.out⟩,HS,hold2.alloc hold2.size _⟩
      case measure=>simp[intOf];omega
    have hdone:Wrote n (M/1000000) s2:=by
      have h1:=HW2.out;have h2:=group_end hk6' hG hq (fun h=>hgo ⟨h.1,h.2.imp hM1'.1 id⟩)
      rwa [h2]at h1
    rw[<-HNX.out]at hdone;have HD:=hid hdone
    by_cases hk6:k<6
    . have hli:¬(i:Int)<(xs.length:Int)-1:=fun h=>hgo ⟨hk6,.inl (by omega)⟩
      have hG0:G=0:=Decidable.byContradiction fun h=>hgo ⟨hk6,.inr (by omega)⟩
      have hk6i:(k:Int)<6:=by omega
      clear hG hq hdone hgo;subst hG0;go_wp2;go_roundw
      case rel=>exact⟨i+1,s2,by omega,by go_num,rfl,HD,hold2⟩
      case measure=>simp[intOf];omega
    have hk6i:¬(k:Int)<6:=by omega
    clear hG hq hdone hgo;go_wp2;go_roundw
    case rel=>exact⟨i+1,s2,by omega,by go_num,rfl,HD,hold2⟩
    case measure=>simp[intOf];omega
  obtain rfl:i=xs.length:=by omega
  have hz:n/B6^xs.length=0:=Decidable.byContradiction fun h=>absurd ((HOV.out _).1 h) (by omega)
  have hs:s=⟨(decDigits n).toArray⟩:=by
    have h1:=HW.out;rw[hz]at h1;unfold Wrote at h1;rw[HE.out]at h1;have:s.data.toList=decDigits n:=by rw[h1];simp[decE]
    rw[<-this]
  have HS:=hid hs;clear hz hs;go_wp2;go_ret;exact⟨by rw[HS.out];rfl,hold⟩
end
end Go.Proofs.YtjhaedfpigebdaaGreatDoor
