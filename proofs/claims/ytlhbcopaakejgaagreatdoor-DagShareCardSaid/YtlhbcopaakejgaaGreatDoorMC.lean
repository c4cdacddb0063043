/- Rows of values of one cell. Text: the library's pieces, the first loop's state. Text. extend: a row of digits times a factor plus a number, in place. Parse. DivMod of small numbers. GCD of small numbers. -/

import Derived.OwnWalk
import Derived.Laws.OwnMore
import Derived.Laws.AppendOwn
import Derived.Lib.SmallJoins
import Derived.Lib.ItoaLen
import Derived.Lib.ItoaMem
import Derived.Lib.Strings
import Derived.Test.YtlhbcopaakejgaaGreatDoorMB
namespace Go.Proofs.YtlhbcopaakejgaaGreatDoor
open Go.RowKit
theorem row1_lt{W:World}{base n:Nat}{e:TypeId}{v:Value}{xs:List Value}(h:W.ownsRow base e 1 v n xs):∀k,v.ownBlock=some k→base≤k∧k<W.heap.size:=by
  intro k hk
  rcases h.2 with⟨rfl,_⟩|⟨g,cap,cur,rfl,hg,hb,_⟩
  · cases hk
  · simp only[Value.ownBlock,Option.some.injEq]at hk
    subst hk;exact⟨hg,(Array.getElem?_eq_some_iff.1 hb).1⟩
theorem row1_step{B base n:Nat}{e:TypeId}{W1 wr w1:World}{v:Value}{xs:List Value}{tmp:Obj}(hb:Below B W1 wr)(hrow:wr.ownsRow base e 1 v n xs)(hbase:B≤base)(hB:B≤wr.heap.size)(hgrow:(wr.alloc tmp).grownBy w1 v.ownBlock):Below B W1 w1:=
  (hb.alloc hB tmp).grown hgrow (by simp;omega) fun k hk=>Nat.le_trans hbase (row1_lt hrow k hk).1
theorem cells1_new(w:World)(u:Value)(t:TypeId):∀j x,[u][j]?=some x→(w.alloc (.cells #[u] t)).cell? ((⟨w.heap.size,0,none⟩:Addr).add j)=some x:=by
  intro j x hx
  match j,hx with
  | 0,hx=>
    simp only[List.getElem?_cons_zero,Option.some.injEq]at hx;subst hx;rw[add_at];exact cell_box1 (heap_new w _)
theorem row1_cell{W:World}{base n:Nat}{e:TypeId}{v:Value}{xs:List Value}(h:W.ownsRow base e 1 v n xs)(hn:n=xs.length){k:Nat}(hk:k<xs.length):∃g cap,v=.slice (some ⟨g,0,none⟩) n cap∧base≤g∧W.cell? ⟨g,k,none⟩=some xs[k]:=by
  rcases h.2 with⟨_,h0⟩|⟨g,cap,cur,rfl,hg,hb,hle,_,hs,ht⟩
  · omega
  · refine⟨g,cap,rfl,hg,?_⟩
    unfold World.cell?;rw[show W.heap[(⟨g,k,none⟩:Addr).block]?=_ from hb]
    have h1:cur.toList[k]?=some xs[k]:=by
      have:=congrArg (fun l=>l[k]?) ht;rw[List.getElem?_take_of_lt (by omega)]at this;rw[this];exact List.getElem?_eq_getElem hk
    rw[Array.getElem?_toList]at h1
    simpa using h1
end Go.Proofs.YtlhbcopaakejgaaGreatDoor
namespace Go.Proofs.YtlhbcopaakejgaaGreatDoor
open Go.RowKit
open Go.Lib (decDigits)
def Tab(w:World):Prop:=Lib.TabIs Tryz.prog w "internal/strconv.uint64pow10" .u64 Lib.pow10Tab
theorem var_below{P:Program}{w w':World}{nm:String}{x:Array Value}(h:w.var? P nm=some x)(hb:Below w.heap.size w w'):w'.var? P nm=some x:=by
  unfold World.var? at h⊢
  cases hg:P.globalNamed nm with
  |none=>rw[hg]at h;cases h
  | some g=>
    rw[hg]at h;simp only[Option.bind_some]at h⊢
    cases hk:w.heap[g]? with
    |none=>rw[hk]at h;cases h
    |some o=>rw[hb.block g (Array.getElem?_eq_some_iff.1 hk).1];exact h
theorem Tab.below{w w':World}(h:Tab w)(hb:Below w.heap.size w w'):Tab w':=var_below h hb
theorem below_grow(w:World)(k:Nat)(os:Array Obj):Below w.heap.size w (Go.Sort.grow (w.drewN k) os):=
  ⟨rfl,rfl,rfl,by simp[Go.Sort.grow],fun i hi=>by simp only[Go.Sort.grow,World.heap_drewN];rw[Array.getElem?_append_left hi]⟩
theorem itoa_any(n:Nat)(w:World)(hn:n≤9223372036854775807)(ht:Tab w):
    Calls Tryz.prog 69 #[.int .i64 (n:Int)] w fun e w'=>e=.returned (.string ⟨(decDigits n).toArray⟩)∧Below w.heap.size w w':=
  (Tryz.strconv_Itoa (n:Int) (by omega) (by omega) w ht).mono fun e w' ⟨h1,k,os,h2⟩=>⟨by rw[h1,Lib.itoa_nonneg],by rw[h2];exact below_grow _ _ _⟩
theorem write_any(b:Nat)(l:List UInt8)(s:ByteArray)(w:World)(h:Lib.IsBuilder 114 5 b b (Lib.byteCells l) w)(hlen:l.length+s.size≤140737488355328):
    Calls Tryz.prog 71 #[.pointer (some ⟨b,0,none⟩),.string s] w fun e w'=> ∃r,e=.returned r∧Lib.IsBuilder 114 5 b b (Lib.byteCells (l++s.data.toList)) w'∧Below b w w':=by
  have hB:b≤w.heap.size:=by
    rcases h with h|h
    · exact Nat.le_of_lt h.lt
    · exact Nat.le_of_lt h.lt
  refine(Any.Builder_WriteString (P:=Tryz.prog) (ρ:=Tryz.lays105_ren) {Tryz.lays105 with} Tryz.Builder_Extra_105 b b _ s w h (by rw[Lib.byteCells_length];exact hlen) hB).mono fun e w' ⟨h1,h2,h3⟩=>⟨_,h1,.inr ?_,h3⟩
  rw[Lib.byteCells_append];exact h2
def flat(ps:List ByteArray):List UInt8:=ps.flatMap fun s=>s.data.toList
theorem flat_append(a b:List ByteArray):flat (a++b)=flat a++flat b:=by unfold flat;rw[List.flatMap_append]
theorem flat_one(s:ByteArray):flat [s]=s.data.toList:=by simp[flat]
theorem flat_mk(l:List UInt8):flat [⟨l.toArray⟩]=l:=by simp[flat]
structure TextAt(w0:World)(m:Nat)(v:Value)(ps:List ByteArray)(wr:World):Prop where
  box:∃p c,wr.heap[w0.heap.size]?=some (.cells #[.slice p (digs B32 m).length c] 39)∧NatV wr (.agg #[.slice p (digs B32 m).length c]) m
  row:wr.ownsRow (w0.heap.size+1) 9 1 v ps.length (ps.map .string)
  nil:ps=[]→v=.slice none 0 0
  old:Below w0.heap.size w0 wr
  sz:w0.heap.size+1≤wr.heap.size
theorem TextAt.below{w0 wr w':World}{m:Nat}{v:Value}{ps:List ByteArray}(h:TextAt w0 m v ps wr)(hb:Below wr.heap.size wr w'):TextAt w0 m v ps w':=by
  obtain⟨⟨p,c,h1,h2⟩,h3,hn,h4,h5⟩:=h;exact⟨⟨p,c,(hb.block _ (by omega)).trans h1,h2.below hb⟩,row_kept_none h3 (grown_of_below hb),hn,h4.trans (hb.mono (by omega)),Nat.le_trans h5 hb.size⟩
theorem TextAt.store{w0 wr:World}{m m':Nat}{v:Value}{ps:List ByteArray}{p:Option Addr}{c:Nat}(h:TextAt w0 m v ps wr)(hn:NatV wr (.agg #[.slice p (digs B32 m').length c]) m'):TextAt w0 m' v ps (wr.setCell ⟨w0.heap.size,0,none⟩ (.slice p (digs B32 m').length c)):=by
  obtain⟨⟨p0,c0,h1,h2⟩,h3,hnil,h4,h5⟩:=h;refine⟨⟨p,c,box_store h1 _,hn.store (cell_box1 h1) _⟩,⟨h3.1,?_⟩,hnil,h4.setCell (p:=⟨w0.heap.size,0,none⟩) (Nat.le_refl _) _,by simpa[World.setCell]using h5⟩;refine h3.2.imp id fun⟨g,cap,cur,e1,e2,e3,e4⟩=>⟨g,cap,cur,e1,e2,?_,e4⟩
  rw[setCell_far _ (by omega)];exact e3
theorem NatV.grown{w w':World}{row:Option Nat}{v:Value}{n:Nat}(h:NatV w v n)(hg:w.grownBy w' row)(hr:∀k,row=some k→ ∀x:Nat,w.cell? ⟨k,0,none⟩≠some (.int .u32 (x:Int))):NatV w' v n:=by
  refine h.imp id fun⟨h0,g,c2,e,t,hc⟩=>⟨h0,g,c2,e,⟨Nat.lt_of_lt_of_le t.lt hg.size,fun k hk=>?_⟩,hc⟩
  have hne:some g≠row:=fun e=>hr g e.symm _ (t.at0 0 (by omega))
  rw[←t.at0 k hk];exact World.cell?_of_block (a:=⟨g,k,none⟩) (hg.block g t.lt hne)
theorem TextAt.push{w0 wr w':World}{m:Nat}{v v':Value}{ps:List ByteArray}{tmp:Obj}{s:ByteArray}(h:TextAt w0 m v ps wr)(hown:w'.ownsRow (w0.heap.size+1) 9 1 v' (ps.length+1) (ps.map .string++[.string s]))(hg:(wr.alloc tmp).grownBy w' v.ownBlock):TextAt w0 m v' (ps++[s]) w':=by
  obtain⟨⟨p,c,h1,h2⟩,h3,hn,h4,h5⟩:=h;have hb:Below (w0.heap.size+1) wr w':=row1_step (Below.refl _ wr) h3 (Nat.le_refl _) h5 hg;refine⟨⟨p,c,(hb.block _ (by omega)).trans h1,?_⟩,by simpa using hown,by simp,h4.trans (hb.mono (by omega)),Nat.le_trans h5 hb.size⟩;refine(h2.below ((Below.refl _ wr).alloc (Nat.le_refl _) tmp)).grown hg fun k hk x hx=>?_
  by_cases hps:ps=[]
  · rw[hn hps]at hk;cases hk
  · have hpos:0<(ps.map Value.string).length:=by rw[List.length_map];exact List.length_pos_iff.2 hps
    obtain⟨g,cap,rfl,hgb,hc⟩:=row1_cell h3 (by simp) hpos;simp only[Value.ownBlock,Option.some.injEq]at hk;subst hk;have hlt:=row1_lt h3 g rfl;rw[((Below.refl wr.heap.size wr).alloc (Nat.le_refl _) tmp).cell (p:=⟨g,0,none⟩) hlt.2,hc]at hx;simp only[List.getElem_map,Option.some.injEq]at hx
    cases hx
def sliceLen:Value→Nat
  | .slice _ n _=>n
  |_=>0
theorem row_sliceLen{W:World}{base n:Nat}{e:TypeId}{v:Value}{xs:List Value}(h:W.ownsRow base e 1 v n xs):sliceLen v=n:=by
  rcases h.2 with⟨rfl,h0⟩|⟨g,cap,cur,rfl,_⟩
  · rw[h0];rfl
  · rfl
def base9:Nat:=1000000000
def groups(n k m:Nat)(ps:List ByteArray):Prop:=m=n/base9^k∧decDigits n=(if m=0 then[]else decDigits m)++flat ps.reverse
theorem groups_step{n k m:Nat}{ps:List ByteArray}(h:groups n k m ps)(hm:m≠0)(s:List UInt8)(hs:s=if m/base9=0 then decDigits (m%base9)else padk 9 (m%base9)):groups n (k+1) (m/base9) (ps++[⟨s.toArray⟩]):=by
  obtain⟨h1,h2⟩:=h;refine⟨by rw[h1,Nat.pow_succ,Nat.div_div_eq_div_mul],?_⟩;rw[h2,if_neg hm,List.reverse_append,flat_append,List.reverse_singleton,flat_mk, ←List.append_assoc]
  congr 1
  rw[hs]
  by_cases h0:m/base9=0
  · rw[if_pos h0,if_pos h0,List.nil_append,Nat.mod_eq_of_lt]
    exact Nat.lt_of_not_le fun hle=>by
      have:=Nat.div_pos hle (by decide:0<base9);omega
  · rw[if_neg h0,if_neg h0]
    exact dec_split 9 m h0
theorem groups_bound{n k m:Nat}{ps:List ByteArray}(h:groups n k m ps)(hm:m≠0){L:Nat}(hL:n<B32^L):k<2*L:=by
  refine Nat.lt_of_not_le fun hle=>hm ?_
  rw[h.1];refine Nat.div_eq_of_lt (Nat.lt_of_lt_of_le hL ?_);have h1:B32^L≤(base9^2)^L:=Nat.pow_le_pow_left (by decide) L;have h2:(base9^2)^L=base9^(2*L):=(Nat.pow_mul base9 2 L).symm;exact Nat.le_trans h1 (h2▸Nat.pow_le_pow_right (by decide) hle)
theorem dec_len{n L:Nat}(hL:n<B32^L):(decDigits n).length≤18*L+1:=by
  refine(pad_eq (18*L+1) n (by omega) (Nat.lt_of_lt_of_le hL ?_)).1;have h1:B32^L≤(10^18)^L:=Nat.pow_le_pow_left (by decide) L;have h2:(10^18)^L=10^(18*L):=(Nat.pow_mul 10 18 L).symm;exact Nat.le_trans h1 (h2▸Nat.pow_le_pow_right (by decide) (by omega))
theorem pad_string(r:Nat)(hr:r<base9):(⟨(Lib.repeatL [48] (9-(decDigits r).length)).toArray⟩:ByteArray)++⟨(decDigits r).toArray⟩=⟨(padk 9 r).toArray⟩:=by
  rw[repeat_zero,(pad_eq 9 r (by omega) hr).2,ByteArray.mk_append_mk]
theorem repeat_any(c:Nat)(w:World)(hc:c≤1000):
    Calls Tryz.prog 70 #[.string ⟨#[48]⟩,.int .i64 (c:Int)] w fun e w'=>e=.returned (.string ⟨(Lib.repeatL [48] c).toArray⟩)∧Below w.heap.size w w':=
  Tryz.strings_Repeat ⟨#[48]⟩ c w (by omega) (by
    have:(⟨#[48]⟩:ByteArray).size=1:=rfl;rw[this];omega)
theorem builder_new(w:World):Lib.IsBuilder 114 5 w.heap.size w.heap.size (Lib.byteCells []) (w.alloc (.cells #[.pointer none,.slice none 0 0] 114)):=
  .inl ⟨Nat.le_refl _,.slice none 0 0,heap_new w _,⟨rfl,.inl ⟨rfl,rfl⟩⟩,by simp[Value.ownBlock]⟩
theorem flat_take(ps:List ByteArray)(k:Nat):(flat (ps.take k)).length≤(flat ps).length:=by
  have:flat ps=flat (ps.take k)++flat (ps.drop k):=by rw[←flat_append,List.take_append_drop]
  rw[this,List.length_append];omega
end Go.Proofs.YtlhbcopaakejgaaGreatDoor
namespace Go.Proofs.YtlhbcopaakejgaaGreatDoor
open Go.RowKit
open Go.Lib (decDigits)
theorem infoS:(Tryz.prog.info? 9).map (fun i=>(i.zero,i.size,i.bytes))=some (some (.string ⟨#[]⟩),1,16):=by kernel_rfl
theorem one_str(s:ByteArray):∀u∈[Value.string s],u.oneCell'=true:=by
  intro u hu;simp only[List.mem_cons,List.not_mem_nil,or_false]at hu;rw[hu];rfl
theorem row_slice{W:World}{base n:Nat}{e:TypeId}{v:Value}{xs:List Value}(h:W.ownsRow base e 1 v n xs):∃p c,v=.slice p n c:=by
  rcases h.2 with⟨rfl,h0⟩|⟨g,cap,cur,rfl,_⟩
  · exact⟨none,0,by rw[h0]⟩
  · exact⟨_,_,rfl⟩
theorem repeat48_size(k:Nat):(⟨(Lib.repeatL [48] k).toArray⟩:ByteArray).size=k:=by
  show(Lib.repeatL [48] k).toArray.size=k
  rw[List.size_toArray,repeat_zero,List.length_replicate]
theorem take_rev{α:Type}{l:List α}{k:Nat}(h:k<l.length):l.reverse.take (k+1)=l.reverse.take k++[l[l.length-1-k]]:=by
  rw[List.take_succ_eq_append_getElem (by simpa using h),List.getElem_reverse]
theorem row_kept_low{w w':World}{base n:Nat}{e:TypeId}{v:Value}{xs:List Value}(h:w.ownsRow base e 1 v n xs)(hb:Below w.heap.size w w'):w'.ownsRow base e 1 v n xs:=row_kept_none h (grown_of_below hb)
set_option maxRecDepth 100000 in
set_option maxHeartbeats 4000000 in
theorem text_any(v:Value)(n:Nat)(w:World)(hv:NatV w v n)(ht:Tab w)(hl:(digs B32 n).length≤100000):
    Calls Tryz.prog 33 #[v] w fun e w'=>e=.returned (.string ⟨(decDigits n).toArray⟩)∧Below w.heap.size w w':=by
  obtain⟨i0,hi,hz0,hz1,hz2⟩:=info_parts infoS;have HB:=hid (show n<B32^(digs B32 n).length by have:=val_lt b32_2 (digs_lt b32_2 n);rwa [val_digs b32_2]at this)
  by_cases h0:n=0
  · subst h0
    have HZ:=hid (fun w1 (hb:Below w.heap.size w w1)=>isZero_any v 0 w1 (hv.below hb));obtain⟨P,c,rfl,hp⟩:=hv.digp;rw[digs_zero,List.length_nil]at HZ⊢;rw[dec_small (by omega)];clear hp hv HB hl;go_enter Tryz.func33,Tryz.ntmps33;go_upto_region 1 with(fail);obtain⟨W1,hW1,hsz,kA,hWb⟩:=box1_head (.slice P 0 c) 39 w;rw[←hW1];have b1:w.heap.size<W1.heap.size:=by omega
    clear hW1 hsz;have a0:=cell_box1 kA;have HZ1:=hid (HZ.out W1 hWb);clear HZ;go_wp2_with (go_at_call 34;refine HZ1.out.mono ?_;clear HZ1;rintro e w2 ⟨rfl,hw2⟩);go_ret;exact⟨rfl,hWb.trans (hw2.mono (by omega))⟩
  · have HZ :=hid (fun w1 (hb:Below w.heap.size w w1)=>isZero_any v n w1 (hv.below hb))
    obtain⟨P,c,rfl,hp⟩:=hv.digp;have HV:=hid hv;rw[show(n==0)=false by simpa using h0]at HZ;have H0:=hid h0;clear hp hv h0;go_enter Tryz.func33,Tryz.ntmps33;go_upto_region 1 with(fail);obtain⟨W1,hW1,hsz,kA,hWb⟩:=box1_head (.slice P (digs B32 n).length c) 39 w;rw[←hW1];have b1:w.heap.size<W1.heap.size:=by omega
    clear hW1 hsz;have a0:=cell_box1 kA;have HZ1:=hid (HZ.out W1 hWb);clear HZ;go_upto_region 4 with(go_at_call 34;refine HZ1.out.mono ?_;clear HZ1;rintro e w2 ⟨rfl,hw2⟩);have hat0:TextAt w n (.slice none 0 0) [] w2:=⟨⟨P,c,(hw2.block _ b1).trans kA,HV.out.below (hWb.trans (hw2.mono hWb.size))⟩,⟨rfl,.inl ⟨rfl,rfl⟩⟩,fun _=>rfl,hWb.trans (hw2.mono hWb.size),Nat.le_trans b1 hw2.size⟩;have HG0:=hid (show groups n 0 n []from⟨by simp,by rw[if_neg H0.out];simp[flat]⟩);clear a0 hWb kA hw2 HV;go_loopw [3] (fun v wr=> ∃(m:Nat) (ps:List ByteArray),TextAt w m v ps wr∧RowKit.Hid (groups n ps.length m ps)∧ps.length≤2*(digs B32 n).length) (fun v _=>2*(digs B32 n).length-sliceLen v)
    case atStart=>exact⟨n,[],hat0,HG0,Nat.zero_le _⟩
    case round=>
      clear hat0 HG0;obtain⟨m,ps,hat,HG,hpl2⟩:=hrel;obtain⟨p,cp,hbox,hnat⟩:=hat.box;have c0:=cell_box1 hbox
      by_cases hm:m=0
      · subst hm
        obtain⟨hgm,hgt⟩:=HG.out;rw[if_pos rfl,List.nil_append]at hgt;have HT:=hid hgt;have htl:(flat ps.reverse).length≤18*(digs B32 n).length+1:=by rw[←hgt];exact dec_len HB.out
        have hpl:ps.length≤1000000:=by omega
        clear hgm hgt;go_upto_region 11 with(go_at_call 34;refine(isZero_any _ _ _ hnat).mono ?_;rintro e w2 ⟨rfl,hw2⟩);have hat2:=hat.below hw2;clear hat hw2 hbox hnat c0 HG
        obtain⟨W2,hW2,hB2,hb2,hs2⟩:∃W2,W2=w2.alloc (.cells #[.pointer none,.slice none 0 0] 114)∧Lib.IsBuilder 114 5 w2.heap.size w2.heap.size (Lib.byteCells []) W2∧Below w2.heap.size w2 W2∧w2.heap.size<W2.heap.size:=
          ⟨_,rfl,builder_new w2,(Below.refl _ w2).alloc (Nat.le_refl _) _,by simp⟩
        have hold2:=hat2.old;have hsz2:=hat2.sz;have hrow2:=hat2.row;obtain⟨pp,cpp,rfl⟩:=row_slice hrow2;go_upto_region 12 with(fail);rw[←hW2];clear hW2 hat2;go_wp2;go_loopw [36] (fun i wr=> ∃k:Nat,k≤ps.length∧i=.int .i64 k∧Lib.IsBuilder 114 5 w2.heap.size w2.heap.size (Lib.byteCells (flat (ps.reverse.take k))) wr∧Below w2.heap.size w2 wr) (fun i _=>ps.length-(intOf i).toNat)
        case atStart=>exact⟨0,Nat.zero_le _,rfl,by simpa[flat]using hB2,hb2⟩
        case round=>
          obtain⟨k,hk,rfl,hBk,hbk⟩:=hrel;clear hB2 hb2;have hrk:=row_kept_low hrow2 hbk
          by_cases hlt:k<ps.length
          · have hj:ps.length-1-k<ps.length:=by omega
            obtain⟨gp,cg,e0,hgb,hcell⟩:=row1_cell hrk (by simp) (k:=ps.length-1-k) (by simpa using hj)
            injection e0 with e1 e2 e3
            subst e3;subst e1;have ei:(ps.length:Int)-1-(k:Int)=((ps.length-1-k:Nat):Int):=by omega
            have hft:=flat_take ps.reverse (k+1);rw[take_rev hlt,flat_append,flat_one]at hft;have HE:=hid (show flat (ps.reverse.take k)++ps[ps.length-1-k].data.toList=flat (ps.reverse.take (k+1)) by rw[take_rev hlt,flat_append,flat_one]);rw[List.getElem_map]at hcell;obtain⟨sk,hsk⟩:∃sk,ps[ps.length-1-k]=sk:=⟨_,rfl⟩;rw[hsk]at hft HE hcell
            have hlw:(flat (ps.reverse.take k)).length+sk.size≤140737488355328:=by
              rw[List.length_append]at hft;have e:sk.data.toList.length=sk.size:=by rw[Array.length_toList];rfl
              omega
            have HW:=hid (write_any w2.heap.size _ sk wr hBk hlw);rw[HE.out]at HW;have q0:(ps.length:Int)-1-(k:Int)<(ps.length:Int):=by omega
            clear hft hlw hsk;go_wp2_with (go_at_call 71;refine HW.out.mono ?_;clear HW;rintro e w5 ⟨rr,rfl,hB5,hb5⟩);go_roundw
            case rel=>exact⟨k+1,by omega,by go_num,hB5,hbk.trans hb5⟩
            case measure=>simp[intOf];omega
          · obtain rfl:k=ps.length:=by omega
            rw[List.take_of_length_le (by simp), ←HT.out]at hBk;have HS:=hid (Tryz.Builder_String_any w2.heap.size w2.heap.size _ wr hBk hbk.size);go_wp2_with (go_at_call 72;refine HS.out.mono ?_;clear HS;rintro e w5 ⟨rfl,hb5⟩);go_ret;exact⟨rfl,hold2.trans ((hbk.trans hb5).mono (by omega))⟩
      · have HM:=hid (show(m==0)=false by simpa using hm)
        have HK:=hid (groups_bound HG.out hm HB.out);have HGS:=hid (groups_step HG.out hm);have hsl:=row_sliceLen hat.row;have hlm:(digs B32 m).length≤1000000:=Nat.le_trans (digs_mono (by rw[HG.out.1];exact Nat.div_le_self _ _)) (by omega);have hr9:m%base9<base9:=Nat.mod_lt _ (by decide);have HD:=fun w1 (h:NatV w1 (.agg #[.slice p (digs B32 m).length cp]) m)=>divs_any _ m base9 w1 h hlm (by decide) (by decide)
        obtain⟨r,hr⟩:∃r,m%base9=r:=⟨_,rfl⟩;rw[hr]at HD HGS hr9;have HRP:=hid (pad_string r hr9);have hln:=(pad_eq 9 r (by omega) hr9).1;have hri:(r:Int)<1000000000:=by have:base9=1000000000:=rfl;omega
        replace HD:=hid HD;have HI:=hid (fun w1 ht=>itoa_any r w1 (by omega) ht);have HRR:=hid (fun w1=>repeat_any (9-(decDigits r).length) w1 (by omega));obtain⟨sr,hsr⟩:∃sr:ByteArray,(⟨(decDigits r).toArray⟩:ByteArray)=sr:=⟨_,rfl⟩;have hsz:sr.size=(decDigits r).length:=by rw[←hsr];simp[ByteArray.size]
        rw[hsr]at HI HRP;rw[←hsz]at HRR HRP hln;have hcnt:((9-sr.size:Nat):Int)=9-(sr.size:Int):=by omega
        rw[hcnt]at HRR;obtain⟨zr,hzr⟩:∃zr:ByteArray,(⟨(Lib.repeatL [48] (9-sr.size)).toArray⟩:ByteArray)=zr:=⟨_,rfl⟩;have hzs:zr.size=9-sr.size:=by rw[←hzr,repeat48_size]
        rw[hzr]at HRR HRP;have HSR:=hid hsr;have hzs2:zr.size+sr.size≤9223372036854775807:=by omega
        have hzs3:zr.size≤9:=by omega
        clear hm hr hcnt hr9 hsz hsr hzr hzs;go_upto_region 6 with(go_at_call 34;refine(isZero_any _ _ _ hnat).mono ?_;rw[HM.out];rintro e w2 ⟨rfl,hw2⟩);replace hnat:=hnat.below hw2;replace hat:=hat.below hw2;replace hbox:=(hw2.block _ (Array.getElem?_eq_some_iff.1 hbox).1).trans hbox;replace c0:=cell_box1 hbox;clear hw2;go_upto_region 7 with(go_at_call 68;refine(HD.out _ hnat).mono ?_;clear HD;rintro e w3 ⟨x,rfl,hx,hw3⟩;obtain⟨q,cq,rfl,_⟩:=hx.dig;have hat3:=hat.below hw3;obtain⟨_,_,hb3,_⟩:=hat3.box;have f3:=free_box1 hb3;have c3:=cell_box1 hb3);replace hat3:=hat3.store hx;obtain⟨W3,hW3⟩:∃W3,W3=w3.setCell ⟨w.heap.size,0,none⟩ (.slice q (digs B32 (m/base9)).length cq):=⟨_,rfl⟩;rw[←hW3]at hat3⊢;clear hW3 hat hnat hbox hb3 hx hw3 f3 c3 c0;have htab3:=ht.below (hat3.old.mono (Nat.le_refl _));go_upto_region 8 with(go_at_call 69;refine(HI.out _ htab3).mono ?_;clear HI;rintro e w4 ⟨rfl,hw4⟩);have hat4:=hat3.below hw4;clear hat3 hw4 htab3;obtain⟨p4,c4,hbox4,hnat4⟩:=hat4.box;have cc4:=cell_box1 hbox4
        by_cases hz:m/base9=0
        · rw[if_pos hz]at HGS
          rw[hz]at hbox4 hnat4 hat4 HGS cc4;have HG':=hid (HGS.out _ rfl);rw[HSR.out]at HG';clear HGS hz;go_upto_region 10 with(go_at_call 34;refine(isZero_any _ _ _ hnat4).mono ?_;rintro e w5 ⟨rfl,hw5⟩);have hat5:=hat4.below hw5;have hkk:=HK.out;go_wp2_with (at_builtin;refine wpList_append_own _ rfl _ _ 105 rfl (w.heap.size+1) 9 i0 _ 1 16 Tryz.underlying105 hi hz0 hz1 hz2 rfl (by decide) _ _ _ rfl (hat5.row.alloc _) ⟨w5.heap.size,0,none⟩ 1 1 [.string sr] rfl rfl (cells1_new w5 _ _) (one_str _) (by simp[maxLen];omega) (by omega) (by have:=hat5.sz;simp;omega) ?_;intro v' w7 hown' hgrow _;have hat7:=hat5.push hown' hgrow);have hsl7:=row_sliceLen hat7.row;rw[List.length_append]at hsl7;go_roundw
          case rel=>exact⟨_,_,hat7,hid (by rw[List.length_append];exact HG'.out),by rw[List.length_append,List.length_singleton];exact HK.out⟩
          case measure=>
            have:=HK.out
            show 2*_-sliceLen v'<2*_-sliceLen _
            rw[hsl,hsl7];simp only[List.length_singleton];omega
        · have hzb:(m/base9==0)=false:=by simpa using hz
          rw[if_neg hz]at HGS;have HG':=hid (HGS.out _ rfl);rw[←HRP.out]at HG';clear HGS hz;go_upto_region 9 with(go_at_call 34;refine(isZero_any _ _ _ hnat4).mono ?_;rw[hzb];rintro e w5 ⟨rfl,hw5⟩);have hat5:=hat4.below hw5;clear hzb hbox4 hnat4 hat4 cc4;go_upto_region 10 with(go_at_call 70;refine(HRR.out _).mono ?_;clear HRR;rintro e w6 ⟨rfl,hw6⟩);have hat6:=hat5.below hw6;have hkk:=HK.out;go_wp2_with (at_builtin;refine wpList_append_own _ rfl _ _ 105 rfl (w.heap.size+1) 9 i0 _ 1 16 Tryz.underlying105 hi hz0 hz1 hz2 rfl (by decide) _ _ _ rfl (hat6.row.alloc _) ⟨w6.heap.size,0,none⟩ 1 1 [.string _] rfl rfl (cells1_new w6 _ _) (one_str _) (by simp[maxLen];omega) (by omega) (by have:=hat6.sz;simp;omega) ?_;intro v' w7 hown' hgrow _;have hat7:=hat6.push hown' hgrow);have hsl7:=row_sliceLen hat7.row;rw[List.length_append]at hsl7;go_roundw
          case rel=>exact⟨_,_,hat7,hid (by rw[List.length_append];exact HG'.out),by rw[List.length_append,List.length_singleton];exact HK.out⟩
          case measure=>
            have:=HK.out
            show 2*_-sliceLen v'<2*_-sliceLen _
            rw[hsl,hsl7];simp only[List.length_singleton];omega
end Go.Proofs.YtlhbcopaakejgaaGreatDoor
namespace Go.Proofs.YtlhbcopaakejgaaGreatDoor
open Go.RowKit
theorem row1_set{W:World}{base n:Nat}{e:TypeId}{g cap:Nat}{xs:List Value}(h:W.ownsRow base e 1 (.slice (some ⟨g,0,none⟩) n cap) n xs)(k:Nat)(u:Value)(_hk:k<n):
    (W.setCell ⟨g,k,none⟩ u).ownsRow base e 1 (.slice (some ⟨g,0,none⟩) n cap) n (xs.set k u):=by
  refine⟨by rw[List.length_set];exact h.1,.inr ?_⟩
  rcases h.2 with⟨e0,_⟩|⟨g',cap',cur,e0,hg,hb,hle,hm,hs,ht⟩
  · cases e0
  · injection e0 with e1 _ e3
    injection e1 with e1
    injection e1 with e1
    subst e1 e3;refine⟨g,cap,cur.setIfInBounds k u,rfl,hg,heap_setCell_at hb u,hle,hm,by rw[Array.size_setIfInBounds];exact hs,?_⟩;rw[←ht,Array.toList_setIfInBounds,List.take_set]
theorem row1_free{W:World}{base n:Nat}{e:TypeId}{g cap:Nat}{xs:List Value}(h:W.ownsRow base e 1 (.slice (some ⟨g,0,none⟩) n cap) n xs):∀o,W.frozen? ⟨g,o,none⟩=false:=by
  rcases h.2 with⟨e0,_⟩|⟨g',cap',cur,e0,hg,hb,_⟩
  · cases e0
  · injection e0 with e1 _ e3
    injection e1 with e1
    injection e1 with e1
    subst e1;intro o;unfold World.frozen?;rw[show W.heap[(⟨g,o,none⟩:Addr).block]?=_ from hb];simp
structure ExtAt(W0:World)(base:Nat)(p:Option Addr)(cap:Nat)(ds:List Nat)(f c0 k c:Nat)(wr:World):Prop where
  row:∃xs:List Nat,wr.ownsRow base 106 1 (.slice p ds.length cap) ds.length (xs.map uCell)∧xs.length=ds.length∧(∀x∈xs,x<B32)∧xs.drop k=ds.drop k∧val B32 (xs.take k)+B32^k*c=val B32 (ds.take k)*f+c0
  old:Below base W0 wr
  cb:c<1000000000
theorem ext_bound{c d f:Nat}(hc:c<1000000000)(hd:d≤4294967295)(hf:f≤1000000000):c+d*f<4294967296000000000:=by
  have:d*f≤4294967295*1000000000:=Nat.mul_le_mul hd hf;omega
theorem ExtAt.step{W0 wr:World}{base g cap:Nat}{ds:List Nat}{f c0 k c d:Nat}(h:ExtAt W0 base (some ⟨g,0,none⟩) cap ds f c0 k c wr)(hg:base≤g)(hk:k<ds.length)(hd:ds[k]=d)(hd1:d≤4294967295)(hf:f≤1000000000):
    ExtAt W0 base (some ⟨g,0,none⟩) cap ds f c0 (k+1) ((c+d*f)/4294967296) (wr.setCell ⟨g,k,none⟩ (.int .u32 (((c+d*f)%4294967296:Nat):Int))):=by
  have hcb:=h.cb;obtain⟨⟨xs,h1,h2,h3,h4,h5⟩,h6,_⟩:=h;have hb:=ext_bound hcb hd1 hf;have hlt:k<xs.length:=by omega
  refine⟨⟨xs.set k ((c+d*f)%4294967296),?_,by simpa using h2,all_set h3 (by rw[b32];omega),?_,?_⟩,h6.setCell (p:=⟨g,k,none⟩) hg _,by omega⟩
  · rw[List.map_set];exact row1_set h1 k _ hk
  · rw[List.drop_set_of_lt (by omega)]
    rw[List.drop_eq_getElem_cons hlt,List.drop_eq_getElem_cons hk]at h4;exact(List.cons.inj h4).2
  · rw[val_take_set hlt,val_take_succ hk,hd,Nat.pow_succ,Nat.add_mul,Nat.mul_assoc (B32^k) B32]
    generalize B32^k=p at*
    have e2:p*((c+d*f)%4294967296)+p*(B32*((c+d*f)/4294967296))=p*c+p*d*f:=by
      rw[←Nat.mul_add,b32,Nat.mod_add_div,Nat.mul_add,Nat.mul_assoc]
    omega
end Go.Proofs.YtlhbcopaakejgaaGreatDoor
namespace Go.Proofs.YtlhbcopaakejgaaGreatDoor
open Go.RowKit
open Go.Lib (decDigits)
theorem str_len(s:ByteArray):s.data.toList.length=s.size:=by rw[Array.length_toList];rfl
end Go.Proofs.YtlhbcopaakejgaaGreatDoor
namespace Go.Proofs.YtlhbcopaakejgaaGreatDoor
open Go.RowKit
structure Box4(w:World)(x y r r':Value)(W:World):Prop where
  k0:W.heap[w.heap.size]?=some (.cells #[x] 39)
  k1:W.heap[w.heap.size+1]?=some (.cells #[y] 39)
  k2:W.heap[w.heap.size+1+1]?=some (.cells #[r] 39)
  k3:W.heap[w.heap.size+1+1+1]?=some (.cells #[r'] 39)
  old:Below w.heap.size w W
  sz:w.heap.size+4≤W.heap.size
theorem box4_head(s s':Value)(w:World):∃W1,W1=(((w.alloc (.cells #[s] 39)).alloc (.cells #[s'] 39)).alloc (.cells #[.slice none 0 0] 39)).alloc (.cells #[.slice none 0 0] 39)∧Box4 w s s' (.slice none 0 0) (.slice none 0 0) W1:=by
  obtain⟨W0,h0,hs,h1,h2,h3,h4⟩:=box3_head s s' w;refine⟨_,rfl,?_⟩;rw[←h0]
  exact⟨(Below.heap_alloc _ _ _ (by omega)).trans h1,(Below.heap_alloc _ _ _ (by omega)).trans h2,(Below.heap_alloc _ _ _ (by omega)).trans h3,by
    have:=heap_new W0 (.cells #[.slice none 0 0] 39);rw[hs]at this;exact this,h4.alloc (by omega) _,by simp;omega⟩
theorem Box4.below{w W W':World}{x y r r':Value}(h:Box4 w x y r r' W)(hb:Below W.heap.size W W'):Box4 w x y r r' W':=by
  have:=h.sz;exact⟨(hb.block _ (by omega)).trans h.k0,(hb.block _ (by omega)).trans h.k1,(hb.block _ (by omega)).trans h.k2,(hb.block _ (by omega)).trans h.k3,h.old.trans (hb.mono (by omega)),Nat.le_trans h.sz hb.size⟩
theorem Box4.set2{w W:World}{x y r r':Value}(h:Box4 w x y r r' W)(u:Value):Box4 w x y u r' (W.setCell ⟨w.heap.size+1+1,0,none⟩ u):=by
  exact⟨by rw[setCell_far _ (by omega)];exact h.k0,by rw[setCell_far _ (by omega)];exact h.k1,box_store h.k2 u,by rw[setCell_far _ (by omega)];exact h.k3,h.old.setCell (p:=⟨w.heap.size+1+1,0,none⟩) (by show _≤w.heap.size+1+1;omega) _,by simpa[World.setCell]using h.sz⟩
theorem Box4.set3{w W:World}{x y r r':Value}(h:Box4 w x y r r' W)(u:Value):Box4 w x y r u (W.setCell ⟨w.heap.size+1+1+1,0,none⟩ u):=by
  exact⟨by rw[setCell_far _ (by omega)];exact h.k0,by rw[setCell_far _ (by omega)];exact h.k1,by rw[setCell_far _ (by omega)];exact h.k2,box_store h.k3 u,h.old.setCell (p:=⟨w.heap.size+1+1+1,0,none⟩) (by show _≤w.heap.size+1+1+1;omega) _,by simpa[World.setCell]using h.sz⟩
theorem Box4.drew{w W:World}{x y r r':Value}(h:Box4 w x y r r' W):Box4 w x y r r' W.drew:=⟨h.k0,h.k1,h.k2,h.k3,h.old.drew,h.sz⟩
set_option maxRecDepth 100000 in
set_option maxHeartbeats 2000000 in
theorem divmod_64(v u:Value)(n m:Nat)(w:World)(hv:NatV w v n)(hu:NatV w u m)(hm:m≠0)(hle:m≤n)(hn:n<18446744073709551616):
    Calls Tryz.prog 81 #[v,u] w fun e w'=> ∃x y,e=.returned (.tuple #[x,y,.int .i64 0])∧NatV w' x (n/m)∧NatV w' y (n%m)∧Below w.heap.size w w':=by
  have hln:(digs B32 n).length≤2:=digs_len_le b32_2 2 n (by rw[b32];exact hn);have hlm:(digs B32 m).length≤2:=digs_len_le b32_2 2 m (by rw[b32];omega);have HZ:=hid (fun w1 (hb:Below w.heap.size w w1)=>isZero_any u m w1 (hu.below hb));have HC:=hid (fun w1 (hb:Below w.heap.size w w1)=>cmp_any v u n m w1 (hv.below hb) (hu.below hb) (by omega) (by omega));have HU:=hid (fun w1 (hb:Below w.heap.size w w1)=>uint64_any v n w1 (hv.below hb));have HU':=hid (fun w1 (hb:Below w.heap.size w w1)=>uint64_any u m w1 (hu.below hb));rw[show(m==0)=false by simpa using hm]at HZ;rw[show u64V n=.tuple #[.int .u64 (n:Int),.bool true] by unfold u64V;rw[if_pos hn,decide_eq_true hn]]at HU;rw[show u64V m=.tuple #[.int .u64 (m:Int),.bool true] by unfold u64V;rw[if_pos (by omega),decide_eq_true (by omega)]]at HU';have hcn:¬cmpN n m<0:=by unfold cmpN;rw[if_neg (by omega)];split<;>omega
  have HO1:=hid (fun w1=>of_any (n/m) w1 (Nat.lt_of_le_of_lt (Nat.div_le_self _ _) hn));have HO2:=hid (fun w1=>of_any (n%m) w1 (by have:=Nat.mod_lt n (Nat.pos_of_ne_zero hm);omega));obtain⟨P,c,rfl,hp⟩:=hv.digp;obtain⟨Q,c',rfl,hq⟩:=hu.digp;clear hp hq hv hu hln hlm;go_enter Tryz.func81,Tryz.ntmps81;go_upto_region 1 with(fail);obtain⟨W0,hW0,hB0⟩:=box4_head (.slice P (digs B32 n).length c) (.slice Q (digs B32 m).length c') w;rw[←hW0];clear hW0;have a1:=cell_box1 hB0.k1;go_upto_region 3 with(go_at_call 34;refine(HZ.out _ hB0.old).mono ?_;clear HZ;rintro e W1 ⟨rfl,hw1⟩;have hB1:=hB0.below hw1);clear hB0 hw1 a1;have a0:=cell_box1 hB1.k0;have a1:=cell_box1 hB1.k1;go_upto_region 5 with(go_at_call 41;refine(HC.out _ hB1.old).mono ?_;clear HC;rintro e W2 ⟨rfl,hw2⟩;have hB2:=hB1.below hw2);clear hB1 hw2 a0 a1;have a0:=cell_box1 hB2.k0;go_upto_region 6 with(go_at_call 113;refine(HU.out _ hB2.old).mono ?_;clear HU;rintro e W3 ⟨rfl,hw3⟩;have hB3:=hB2.below hw3);clear hB2 hw3 a0;have a1:=cell_box1 hB3.k1;go_upto_region 8 with(go_at_call 113;refine(HU'.out _ hB3.old).mono ?_;clear HU';rintro e W4 ⟨rfl,hw4⟩;have hB4:=hB3.below hw4);clear hB3 hw4 a1;have hmi:¬m=0:=hm
  have hq1:(n:Int)/(m:Int)<18446744073709551616:=by
    have e:(n:Int)/(m:Int)=((n/m:Nat):Int):=rfl;have:=Nat.div_le_self n m;rw[e];omega
  have hq2:0≤(n:Int)/(m:Int):=Int.natCast_nonneg (n/m)
  have hr1:(n:Int)%(m:Int)<18446744073709551616:=by
    have e:(n:Int)%(m:Int)=((n%m:Nat):Int):=rfl;have:=Nat.mod_le n m;rw[e];omega
  have hr2:0≤(n:Int)%(m:Int):=Int.natCast_nonneg (n%m);refine wp_region_staged (fun w'=>Box4 w (.slice P (digs B32 n).length c) (.slice Q (digs B32 m).length c') (.slice none 0 0) (.slice none 0 0) w') [0,0,0,2,0,0,0,2,2,2,0] (by kernel_rfl) (by kernel_rfl) (by kernel_rfl) (hB4.drew) ?_;apply lexF rfl;(· intro _;go_simp;(try go_bits);exact⟨rfl,rfl⟩);simp only[Act.put,List.setIfInBounds_toArray,List.set_cons_zero,List.set_cons_succ];apply lexF rfl;(· intro _;go_simp;(try go_bits);exact⟨rfl,rfl⟩);simp only[Act.put,List.setIfInBounds_toArray,List.set_cons_zero,List.set_cons_succ];apply lexF rfl;(· intro _;go_simp;(try go_bits);exact⟨rfl,rfl⟩);simp only[Act.put,List.setIfInBounds_toArray,List.set_cons_zero,List.set_cons_succ];apply lexE (α:=Option Addr × Nat) (fun x=>.agg #[.slice x.1 (digs B32 (n/m)).length x.2]) (fun x w'=>Box4 w (.slice P (digs B32 n).length c) (.slice Q (digs B32 m).length c') (.slice none 0 0) (.slice none 0 0) w'∧NatV w' (.agg #[.slice x.1 (digs B32 (n/m)).length x.2]) (n/m)) rfl
  · intro w' hB
    go_simp;refine(HO1.out _).mono ?_
    rintro e w5 ⟨x,rfl,hx,hw5⟩
    obtain⟨p,c5,rfl,_⟩:=hx.dig;exact⟨_,rfl,p,c5,rfl,hB.below hw5,hx⟩
  rintro⟨p5,c5⟩
  simp only[Act.put,List.setIfInBounds_toArray,List.set_cons_zero,List.set_cons_succ];apply lexF rfl;(· intro _;go_simp;(try go_bits);exact⟨rfl,rfl⟩);simp only[Act.put,List.setIfInBounds_toArray,List.set_cons_zero,List.set_cons_succ];apply lexF rfl;(· intro _;go_simp;(try go_bits);exact⟨rfl,rfl⟩);simp only[Act.put,List.setIfInBounds_toArray,List.set_cons_zero,List.set_cons_succ];apply lexF rfl;(· intro _;go_simp;(try go_bits);exact⟨rfl,rfl⟩);simp only[Act.put,List.setIfInBounds_toArray,List.set_cons_zero,List.set_cons_succ];apply lexE (α:=Option Addr × Nat) (fun x=>.agg #[.slice x.1 (digs B32 (n%m)).length x.2]) (fun x w'=>Box4 w (.slice P (digs B32 n).length c) (.slice Q (digs B32 m).length c') (.slice none 0 0) (.slice none 0 0) w'∧NatV w' (.agg #[.slice p5 (digs B32 (n/m)).length c5]) (n/m)∧NatV w' (.agg #[.slice x.1 (digs B32 (n%m)).length x.2]) (n%m)) rfl
  · rintro w' ⟨hB,hx⟩
    go_simp;refine(HO2.out _).mono ?_
    rintro e w6 ⟨x,rfl,hy,hw6⟩
    obtain⟨p,c6,rfl,_⟩:=hy.dig;exact⟨_,rfl,p,c6,rfl,hB.below hw6,hx.below hw6,hy⟩
  rintro⟨p6,c6⟩
  simp only[Act.put,List.setIfInBounds_toArray,List.set_cons_zero,List.set_cons_succ];apply lexS (fun w'=>Box4 w (.slice P (digs B32 n).length c) (.slice Q (digs B32 m).length c') (.slice p5 (digs B32 (n/m)).length c5) (.slice none 0 0) w'∧NatV w' (.agg #[.slice p5 (digs B32 (n/m)).length c5]) (n/m)∧NatV w' (.agg #[.slice p6 (digs B32 (n%m)).length c6]) (n%m)) rfl
  · rintro w' ⟨hB,hx,hy⟩
    have c2:=cell_box1 hB.k2;have f2:=free_box1 hB.k2;go_simp;exact⟨rfl,hB.set2 _,hx.store c2 _,hy.store c2 _⟩
  simp only[Act.put];apply lexS (fun w'=>Box4 w (.slice P (digs B32 n).length c) (.slice Q (digs B32 m).length c') (.slice p5 (digs B32 (n/m)).length c5) (.slice p6 (digs B32 (n%m)).length c6) w'∧NatV w' (.agg #[.slice p5 (digs B32 (n/m)).length c5]) (n/m)∧NatV w' (.agg #[.slice p6 (digs B32 (n%m)).length c6]) (n%m)) rfl
  · rintro w' ⟨hB,hx,hy⟩
    have c2:=cell_box1 hB.k3;have f2:=free_box1 hB.k3;go_simp;exact⟨rfl,hB.set3 _,hx.store c2 _,hy.store c2 _⟩
  simp only[Act.put];apply lexF rfl;(· intro _;go_simp;(try go_bits);exact⟨rfl,rfl⟩);simp only[Act.put,List.setIfInBounds_toArray,List.set_cons_zero,List.set_cons_succ];refine lexEnd (fun W5 hw5=>?_);obtain⟨hB,hx,hy⟩:=hw5;have c2:=cell_box1 hB.k2;have c3:=cell_box1 hB.k3;go_wp2;exact bodyPost_ret (v:=.tuple #[.agg #[.slice p5 (digs B32 (n/m)).length c5],.agg #[.slice p6 (digs B32 (n%m)).length c6],.int .i64 0]) (by simp[results,Tryz.results81,go_sem,c2,c3]) rfl ⟨_,_,rfl,hx,hy,hB.old⟩
set_option maxHeartbeats 1000000 in
theorem divmod_zero(v u:Value)(n:Nat)(w:World)(hv:NatV w v n)(hu:NatV w u 0):
    Calls Tryz.prog 81 #[v,u] w fun e w'=>e=.returned (.tuple #[.agg #[.slice none 0 0],.agg #[.slice none 0 0],.int .i64 10])∧Below w.heap.size w w':=by
  have HZ:=hid (fun w1 (hb:Below w.heap.size w w1)=>isZero_any u 0 w1 (hu.below hb));obtain⟨P,c,rfl,hp⟩:=hv.digp;obtain⟨Q,c',rfl,hq⟩:=hu.digp;clear hp hq hv hu;go_enter Tryz.func81,Tryz.ntmps81;go_upto_region 1 with(fail);obtain⟨W0,hW0,hB0⟩:=box4_head (.slice P (digs B32 n).length c) (.slice Q (digs B32 0).length c') w;rw[←hW0];clear hW0;have a1:=cell_box1 hB0.k1;go_upto_region 2 with(go_at_call 34;refine(HZ.out _ hB0.old).mono ?_;clear HZ;rintro e W1 ⟨rfl,hw1⟩;have hB1:=hB0.below hw1);clear hB0 hw1 a1;have c2:=cell_box1 hB1.k2;have c3:=cell_box1 hB1.k3;have f2:=free_box1 hB1.k2;have f3:=free_box1 hB1.k3;have hB2:=(hB1.set2 (.slice none 0 0)).set3 (.slice none 0 0);have d2:=cell_box1 hB2.k2;have d3:=cell_box1 hB2.k3;go_wp2;exact bodyPost_ret (v:=.tuple #[.agg #[.slice none 0 0],.agg #[.slice none 0 0],.int .i64 10]) (by simp[results,Tryz.results81,go_sem,d2,d3]) rfl ⟨rfl,hB2.old⟩
set_option maxRecDepth 100000 in
set_option maxHeartbeats 2000000 in
theorem divmod_lt(v u:Value)(n m:Nat)(w:World)(hv:NatV w v n)(hu:NatV w u m)(hlt:n<m)(hln:(digs B32 n).length≤1000000)(hlm:(digs B32 m).length≤1000000):
    Calls Tryz.prog 81 #[v,u] w fun e w'=> ∃x y,e=.returned (.tuple #[x,y,.int .i64 0])∧NatV w' x (n/m)∧NatV w' y (n%m)∧Below w.heap.size w w':=by
  have HZ:=hid (fun w1 (hb:Below w.heap.size w w1)=>isZero_any u m w1 (hu.below hb));have HC:=hid (fun w1 (hb:Below w.heap.size w w1)=>cmp_any v u n m w1 (hv.below hb) (hu.below hb) hln hlm);have HV:=hid (fun w1 (hb:Below w.heap.size w w1)=>hv.below hb);rw[show(m==0)=false by rw[beq_eq_false_iff_ne];omega]at HZ;rw[cmpN_lt hlt]at HC;rw[Nat.div_eq_of_lt hlt,Nat.mod_eq_of_lt hlt];obtain⟨P,c,rfl,hp⟩:=hv.digp;obtain⟨Q,c',rfl,hq⟩:=hu.digp;clear hp hq hv hu hlt;go_enter Tryz.func81,Tryz.ntmps81;go_upto_region 1 with(fail);obtain⟨W0,hW0,hB0⟩:=box4_head (.slice P (digs B32 n).length c) (.slice Q (digs B32 m).length c') w;rw[←hW0];clear hW0;have a1:=cell_box1 hB0.k1;go_upto_region 3 with(go_at_call 34;refine(HZ.out _ hB0.old).mono ?_;clear HZ;rintro e W1 ⟨rfl,hw1⟩;have hB1:=hB0.below hw1);clear hB0 hw1 a1;have a0:=cell_box1 hB1.k0;have a1:=cell_box1 hB1.k1;go_upto_region 4 with(go_at_call 41;refine(HC.out _ hB1.old).mono ?_;clear HC;rintro e W2 ⟨rfl,hw2⟩;have hB2:=hB1.below hw2);clear hB1 hw2 a0 a1;refine wp_region_stagedP (fun w'=>w'.heap[w.heap.size]?=some (.cells #[.slice P (digs B32 n).length c] 39)) (fun w'=>w'.heap[w.heap.size]?=some (.cells #[.slice P (digs B32 n).length c] 39)∧Box4 w (.slice P (digs B32 n).length c) (.slice Q (digs B32 m).length c') (.slice none 0 0) (.slice none 0 0) w') [0,0,2,2,0] (by kernel_rfl) (by kernel_rfl) (by kernel_rfl) (fun _ h=>h.1) (⟨hB2.k0,hB2.drew⟩) ?_;apply lexF rfl;(· intro _;go_simp;(try go_bits);exact⟨rfl,rfl⟩);simp only[Act.put,List.setIfInBounds_toArray,List.set_cons_zero,List.set_cons_succ];apply lexP rfl
  · intro w' hw';have a0:=cell_box1 hw';go_simp;(try go_bits);exact⟨rfl,rfl⟩
  simp only[Act.put,List.setIfInBounds_toArray,List.set_cons_zero,List.set_cons_succ];apply lexS (hP:=fun _ h=>h.1) (fun w'=>w'.heap[w.heap.size]?=some (.cells #[.slice P (digs B32 n).length c] 39)∧Box4 w (.slice P (digs B32 n).length c) (.slice Q (digs B32 m).length c') (.slice none 0 0) (.slice none 0 0) w') rfl
  · rintro w' ⟨_,hB⟩
    have c2:=cell_box1 hB.k2;have f2:=free_box1 hB.k2;go_simp;exact⟨rfl,(hB.set2 _).k0,hB.set2 _⟩
  simp only[Act.put];apply lexS (hP:=fun _ h=>h.1) (fun w'=>w'.heap[w.heap.size]?=some (.cells #[.slice P (digs B32 n).length c] 39)∧Box4 w (.slice P (digs B32 n).length c) (.slice Q (digs B32 m).length c') (.slice none 0 0) (.slice P (digs B32 n).length c) w') rfl
  · rintro w' ⟨_,hB⟩
    have c2:=cell_box1 hB.k3;have f2:=free_box1 hB.k3;go_simp;exact⟨rfl,(hB.set3 _).k0,hB.set3 _⟩
  simp only[Act.put];apply lexF rfl;(· intro _;go_simp;(try go_bits);exact⟨rfl,rfl⟩);simp only[Act.put,List.setIfInBounds_toArray,List.set_cons_zero,List.set_cons_succ];refine lexEnd (fun W5 hw5=>?_);have hB:=hw5.2;have c2:=cell_box1 hB.k2;have c3:=cell_box1 hB.k3;go_wp2;exact bodyPost_ret (v:=.tuple #[.agg #[.slice none 0 0],.agg #[.slice P (digs B32 n).length c],.int .i64 0]) (by simp[results,Tryz.results81,go_sem,c2,c3]) rfl ⟨_,_,rfl,NatV.zero _,HV.out _ hB.old,hB.old⟩
end Go.Proofs.YtlhbcopaakejgaaGreatDoor
namespace Go.Proofs.YtlhbcopaakejgaaGreatDoor
open Go.RowKit
theorem gcd_step(x y:Nat):Nat.gcd y (x%y)=Nat.gcd x y:=by rw[Nat.gcd_comm x y,Nat.gcd_rec y x,Nat.gcd_comm]
end Go.Proofs.YtlhbcopaakejgaaGreatDoor
