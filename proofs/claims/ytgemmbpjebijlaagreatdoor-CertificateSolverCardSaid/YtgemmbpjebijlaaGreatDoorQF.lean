/- Certificates (one of several texts). Part 6 of 6. -/

import Derived.Test.YtgemmbpjebijlaaGreatDoorQE
import Derived.ChangeMaps5
import Derived.Test.YtgemmbpjebijlaaGreatDoorRows
import Derived.Test.YtgemmbpjebijlaaGreatDoorTie
import Derived.ProofKit
import Derived.OpenShut
import Derived.JoinedCond
import Derived.LaidMore
import Derived.Lay
import Derived.SevenTiedAt
import Derived.Stop.Joined
import Derived.Lib.LaidTab
import Derived.Lib.LaidU8
import Derived.Lib.SmallJoins
import Derived.Deep.Slices
import Derived.LaidLaws
namespace Go.Proofs.YtgemmbpjebijlaaGreatDoor
open Go.ChangeShapes Go.WideShapes Go.ChangeAt Go.RowKit Go.Joins Go.Deep
theorem ownK:ownKnob Tryz.prog.godebug=none:=by kernel_rfl
theorem laidOutK:laidOutB Tryz.prog=true:=by kernel_rfl
theorem reread{H:Type}{enc:TypeId × Value->H}{P:Program}(hl:laidOutB P=true){W W':World}(hb:Below W.heap.size W W'):
    ∀ {ts:List TypeId} {vs:List Value} {ds:List (DataW H)} {ps:List MemPlace},(ts.all fun t=>P.readableRec t&&decide (t<P.types.size))=true->DataW.TrodAll enc P W 0 (fun _=>true) true ts vs ds ps->(∀x∈ps,x.block<W.heap.size)->
      DataW.TrodAll enc P W' 0 (fun b=>decide (b<W.heap.size)) true ts vs ds ps
  | [],vs,ds,ps,_,h,_=>by
    obtain⟨rfl,rfl,rfl⟩:=trodAll_nil h;exact trodAll_mk0
  | t::ts,vs,ds,ps,ha,h,hlt=>by
    obtain⟨v,vs',d,ds',p,q,rfl,rfl,rfl,h1,h2⟩:=trodAll_cons h;simp only[List.all_cons,Bool.and_eq_true,decide_eq_true_eq]at ha;exact trodAll_cons_mk (Below.trod hl ha.1.1 ha.1.2 h1 hb fun x hx=>hlt x (List.mem_append_left _ hx)) (reread hl hb (by simpa using ha.2) h2 fun x hx=>hlt x (List.mem_append_right _ hx))
theorem law_post{H:Type}{enc:TypeId × Value->H}{fn:Func}{s:ChangeSpec}{W W':World}{args:Array Value}{ds gs:List (DataW H)}{p q:List MemPlace}(hs:s.fn H (ds++gs)={results:=[.lit (.bool true)],args:=ds})(hvars:s.vars=[])
    (hres:fn.resultTypes=#[4]) (hts:(fn.params.toList.all fun t=>Tryz.prog.readableRec t&&decide (t<Tryz.prog.types.size))=true)
    (hW:DataW.Whole enc Tryz.prog fn.params.toList s.vars false W args.toList ds gs (p++q)) (hA:DataW.TrodAll enc Tryz.prog W 0 (fun _=>true) true fn.params.toList args.toList ds p) (hB:Below W.heap.size W W'):
    s.post enc Tryz.prog fn false true false false W args (.bool true) W':=by
  refine⟨ds,gs,p++q,[],p,[],hW,?_,?_,?_,hB.frame _,fun h=>by cases h⟩
  . rw[hs,hres];exact trodAll_cons_mk (p:=[]) (shut_bool Tryz.underlying4 _) trodAll_mk0
  . rw[hs];exact reread laidOutK hB hts hA fun x hx=>hW.lt x (List.mem_append_left _ hx)
  rw[hs,hvars];rfl
theorem tab_of_laid{W:World}(h:laidMetH Tryz.prog Rows.certificateKindsRow.laid W):Tab W:=by
  rw[MakeChecks.laidMetH_plain _ _ _ (by kernel_rfl)]at h;obtain⟨g,t,cs,fuel,p,hg,hty,hvar,hd⟩:=Lib.laidMet.reads h (n:= "internal/strconv.uint64pow10") (d:=Lib.tabData .u64 Lib.pow10Tab) (.tail _ (.tail _ (.head _)));obtain⟨g',hg',hty'⟩:∃g',Tryz.prog.globalNamed "internal/strconv.uint64pow10"=some g'/\(Tryz.prog.globals[g']?).map (·.type)=some 226:=⟨2,by kernel_rfl,by kernel_rfl⟩;obtain rfl:=Option.some.inj (hg'.symm.trans hg);obtain rfl:=Option.some.inj (hty'.symm.trans hty);have hcs:=Lib.cells_of_tab Tryz.underlying226 Tryz.underlying140 (by kernel_rfl) (by kernel_rfl) hd;unfold Tab Lib.TabIs;rw[hvar, <-hcs]
section
variable {H:Type}{enc:TypeId × Value->H}
theorem change_and_shaped{a:Assume}{C:Checked}{os:Os}{f:FuncId}{fn:Func}{s:ChangeSpec}{conds:List PathCond}{apart fresh handsOn again:Bool}{X:World->Array Value->Prop}
    (hX:∀(w w':World) (args:Array Value),w.heap=w'.heap->X w args->X w' args)
    (own:ownKnob C.prog.godebug=none) (started:os.Started) (noInit:C.prog.inits.idxOf? f=none) (hfn:C.prog.funcs[f]?=some fn)
    (witness:∃(w:World) (tape:Tape) (i:Input),w.os=os/\(w.forCall tape i).Shaped C.prog/\i.vars=[]/\Input.okWide C.prog (w.forCall tape i) .any w.heap.size f i/\
      ((s.pre enc C.prog fn conds apart (w.forCall tape i).memory i.args/\X (w.forCall tape i).memory i.args)/\sizedMet enc C.prog fn (OpenSpec.ofChange s) apart (w.forCall tape i).memory i.args)/\a.holds C.prog (lone (Frame.enter C.prog f i.args .normal) [] (w.forCall tape i)))
    (contract:∀(W:World) (base:Nat) (args:Array Value) (ds gs:List (DataW H)) (before:List MemPlace),
      (∀(j:Nat) t v,fn.params[j]?=some t->args[j]?=some v->Value.okWide C.prog W .any base t v)->
      DataW.Whole enc C.prog fn.params.toList s.vars apart W args.toList ds gs before->
      X W args->W.ShapedOpen C.prog->
      Calls C.prog f args W fun e W'=> ∃v,e=.returned v/\s.post enc C.prog fn apart fresh handsOn again W args v W'):
    ReturnsInHanded a C os f .any (fun w args=>(s.pre enc C.prog fn conds apart w args/\X w args)/\sizedMet enc C.prog fn (OpenSpec.ofChange s) apart w args) (s.post enc C.prog fn apart fresh handsOn again):=by
  refine returnsInHanded_of_calls own started noInit witness ?_;intro w tape i _ hsh _ hok hpre _;obtain⟨_,_,_,fn',hfn',_,_,_,_,hval⟩:=hok;obtain rfl:fn'=fn:=Option.some.inj (hfn'.symm.trans hfn);obtain⟨⟨⟨ds,gs,before,hw,_⟩,hx⟩,_⟩:=hpre;have hw':=DataW.Whole.of_heap (w':=w.forCall tape i) (by rfl) hw;refine(contract (w.forCall tape i) w.heap.size i.args ds gs before hval hw' (hX _ _ _ (by rfl) hx) hsh).mono fun e W' ⟨v,he,hp⟩=>?_
  subst he;exact ChangeSpec.post_blind hp
end
section
variable {H:Type}{enc:TypeId × Value->H}{w:World}{base:Nat}{sp:Nat->Bool}{hd:Bool}
end
theorem cellsK_i8:Tryz.prog.cellsOf 25=1:=by kernel_rfl
theorem cellsK_i8s:Tryz.prog.cellsOf 22=1:=by kernel_rfl
theorem cellsK_fr:Tryz.prog.cellsOf 27=2:=by kernel_rfl
theorem cellsK_frs:Tryz.prog.cellsOf 63=1:=by kernel_rfl
section
variable {H:Type}{enc:TypeId × Value->H}{w:World}{base:Nat}{sp:Nat->Bool}{hd:Bool}
theorem i8_wf{x:Int}(wx:(Lit.int .i8 x).wf=true):Rng8 x:=by
  simp[Lit.wf,IntKind.min,IntKind.max,IntKind.signed,IntKind.bits]at wx;exact⟨by omega,by omega⟩
theorem elem_i8{m:Nat}{cs:List Value}{y:DataW H × List MemPlace}(h:DataW.trod enc Tryz.prog w base sp hd m 25 cs=some y):∃x:Int,cs=[.int .i8 x]/\Rng8 x:=by
  obtain⟨x,e,_,wx⟩:=DataW.trod_int Tryz.underlying25 h;exact⟨x,e,i8_wf wx⟩
theorem cell_slice{m:Nat}{t e:TypeId}{c:Value}{y:DataW H × List MemPlace}(ht:Tryz.prog.underlying t=some (.slice e))(h:DataW.trod enc Tryz.prog w base sp hd m t [c]=some y):∃a len cap,c=.slice a len cap:=by
  rcases open_slice ht h with⟨hcs,_⟩|⟨a,len,cap,_,_,_,_,hcs,_⟩
  . exact⟨_,_,_,by simpa using hcs⟩
  exact⟨_,_,_,by simpa using hcs⟩
theorem open_i8s{v:Value}{d:DataW H}{p:List MemPlace}(hv:∃a len cap,v=.slice a len cap)(h:DataW.Trod enc Tryz.prog w base sp hd 22 v d p):∃xs:List Int,SlV i8K w v xs/\ ∀x∈xs,Rng8 x:=
  open_slv (K:=i8K) (Ok:=Rng8) Tryz.underlying22 cellsK_i8 (fun _ _ _ _ hx=>elem_i8 hx) hv h
theorem cell_i8s{m:Nat}{c:Value}{y:DataW H × List MemPlace}(h:DataW.trod enc Tryz.prog w base sp hd m 22 [c]=some y):∃xs:List Int,SlV i8K w c xs/\ ∀x∈xs,Rng8 x:=by
  obtain⟨a,l,cp,rfl⟩:=cell_slice Tryz.underlying22 h;exact open_i8s (d:=y.1) (p:=y.2) ⟨_,_,_,rfl⟩ ⟨m,h⟩
theorem SlV.len63{α:Type}{K:EK α}{v:Value}{xs:List α}(h:SlV K w v xs):xs.length<=9223372036854775807:=by
  obtain⟨p,c,rfl,hn⟩:=h.sh
  by_cases hx:xs=[]
  . subst hx;exact Nat.zero_le _
  obtain⟨_,_,_,_,h1,h2⟩:=hn hx;exact Nat.le_trans h1 h2
set_option maxRecDepth 100000 in
theorem open_sm{b0:Nat}{v:Value}{d:DataW H}{p:List MemPlace}(hv:Value.okWide Tryz.prog w .any b0 24 v)(h:DataW.Trod enc Tryz.prog w base sp hd 24 v d p):∃(s:Sm) (p a b:Option Addr) (n1 c1 n2 c2 n3 c3:Nat),v=.agg #[.slice p n1 c1,.slice a n2 c2,.slice b n3 c3]/\SlV i8K w (.slice p n1 c1) s.c/\SlV i8K w (.slice a n2 c2) s.a/\SlV i8K w (.slice b n3 c3) s.b/\s.Ok:=by
  obtain⟨cs,rfl,hsz⟩:=okWide_struct Tryz.underlying24 hv;rw[show Tryz.prog.cellsOf 24=3 by kernel_rfl]at hsz;obtain⟨l⟩:=cs
  match l,hsz with
  |[c0,c1,c2],_=>
  obtain⟨fuel,hf⟩:=h;obtain⟨xs,n,_,_,_,hlen,hf⟩:=DataW.trod_struct Tryz.underlying24 hf
  match xs,hlen with
  |[y0,y1,y2],_=>
  obtain⟨c,k0,r0⟩:=cell_i8s (c:=c0) (m:=n) (y:=y0) (by simpa[Value.cells,cellsK_i8s]using hf 0 _ rfl);obtain⟨a,k1,r1⟩:=cell_i8s (c:=c1) (m:=n) (y:=y1) (by simpa[Value.cells,cellsK_i8s]using hf 1 _ rfl);obtain⟨b,k2,r2⟩:=cell_i8s (c:=c2) (m:=n) (y:=y2) (by simpa[Value.cells,cellsK_i8s]using hf 2 _ rfl);obtain⟨p0,e0,rfl,_⟩:=k0.sh;obtain⟨p1,e1,rfl,_⟩:=k1.sh;obtain⟨p2,e2,rfl,_⟩:=k2.sh;exact⟨⟨c,a,b⟩,p0,p1,p2,_,e0,_,e1,_,e2,rfl,k0,k1,k2,⟨r0,r1,r2,k0.len63,k1.len63,k2.len63⟩⟩
set_option maxRecDepth 100000 in
theorem elem_fr{m:Nat}{cs:List Value}{y:DataW H × List MemPlace}(hl:cs.length=2)(h:DataW.trod enc Tryz.prog w base sp hd m 27 cs=some y):∃x:Frc,cs=frC x/\x.Ok:=by
  match cs,hl with
  | [c0,c1],_=>
    obtain⟨xs,n,_,rfl,_,hlen,hf⟩:=DataW.trod_struct Tryz.underlying27 h
    match xs,hlen with
    | [y0,y1],_=>
      have h0:DataW.trod enc Tryz.prog w base sp hd n 25 [c0]=some y0:=by simpa[cellsK_i8]using hf 0 _ rfl
      have h1:DataW.trod enc Tryz.prog w base sp hd n 25 [c1]=some y1:=by simpa[cellsK_i8]using hf 1 _ rfl
      obtain⟨a,e0,r0⟩:=elem_i8 h0;obtain⟨b,e1,r1⟩:=elem_i8 h1;simp at e0 e1;subst e0 e1;exact⟨⟨a,b⟩,rfl,r0,r1⟩
theorem open_frs{v:Value}{d:DataW H}{p:List MemPlace}(hv:∃a len cap,v=.slice a len cap)(h:DataW.Trod enc Tryz.prog w base sp hd 63 v d p):∃xs:List Frc,SlV frK w v xs/\ ∀x∈xs,x.Ok:=
  open_slv (K:=frK) (Ok:=Frc.Ok) Tryz.underlying63 cellsK_fr (fun _ _ _ hl hx=>elem_fr hl hx) hv h
theorem cell_frs{m:Nat}{c:Value}{y:DataW H × List MemPlace}(h:DataW.trod enc Tryz.prog w base sp hd m 63 [c]=some y):∃xs:List Frc,SlV frK w c xs/\ ∀x∈xs,x.Ok:=by
  obtain⟨a,l,cp,rfl⟩:=cell_slice Tryz.underlying63 h;exact open_frs (d:=y.1) (p:=y.2) ⟨_,_,_,rfl⟩ ⟨m,h⟩
set_option maxRecDepth 100000 in
theorem open_gs{b0:Nat}{v:Value}{d:DataW H}{p:List MemPlace}(hv:Value.okWide Tryz.prog w .any b0 65 v)(h:DataW.Trod enc Tryz.prog w base sp hd 65 v d p):∃(g:Gs) (p a b:Option Addr) (n1 c1 n2 c2 n3 c3:Nat),v=.agg #[.int .i8 g.k,.slice p n1 c1,.slice a n2 c2,.slice b n3 c3,.int .i8 g.z.n,.int .i8 g.z.d]/\SlV frK w (.slice p n1 c1) g.x/\SlV frK w (.slice a n2 c2) g.y/\SlV frK w (.slice b n3 c3) g.r/\g.Ok:=by
  obtain⟨cs,rfl,hsz⟩:=okWide_struct Tryz.underlying65 hv;rw[show Tryz.prog.cellsOf 65=6 by kernel_rfl]at hsz;obtain⟨l⟩:=cs
  match l,hsz with
  |[c0,c1,c2,c3,c4,c5],_=>
  obtain⟨fuel,hf⟩:=h;obtain⟨xs,n,_,_,_,hlen,hf⟩:=DataW.trod_struct Tryz.underlying65 hf
  match xs,hlen with
  |[y0,y1,y2,y3,y4],_=>
  have h0:DataW.trod enc Tryz.prog w base sp hd n 25 [c0]=some y0:=by simpa[Value.cells,cellsK_i8,cellsK_fr,cellsK_frs]using hf 0 _ rfl
  have h4:DataW.trod enc Tryz.prog w base sp hd n 27 [c4,c5]=some y4:=by simpa[Value.cells,cellsK_i8,cellsK_fr,cellsK_frs]using hf 4 _ rfl
  obtain⟨z,e0,r0⟩:=elem_i8 h0;obtain⟨x,k1,r1⟩:=cell_frs (c:=c1) (m:=n) (y:=y1) (by simpa[Value.cells,cellsK_i8,cellsK_fr,cellsK_frs]using hf 1 _ rfl);obtain⟨y,k2,r2⟩:=cell_frs (c:=c2) (m:=n) (y:=y2) (by simpa[Value.cells,cellsK_i8,cellsK_fr,cellsK_frs]using hf 2 _ rfl);obtain⟨r,k3,r3⟩:=cell_frs (c:=c3) (m:=n) (y:=y3) (by simpa[Value.cells,cellsK_i8,cellsK_fr,cellsK_frs]using hf 3 _ rfl);obtain⟨f,e4,r4⟩:=elem_fr rfl h4;simp[frC]at e0 e4;obtain⟨rfl,rfl⟩:=e4;subst e0;obtain⟨p1,q1,rfl,_⟩:=k1.sh;obtain⟨p2,q2,rfl,_⟩:=k2.sh;obtain⟨p3,q3,rfl,_⟩:=k3.sh;exact⟨⟨z,x,y,r,f⟩,p1,p2,p3,_,q1,_,q2,_,q3,rfl,k1,k2,k3,⟨r0,r1,r2,r3,r4,k1.len63,k2.len63,k3.len63⟩⟩
end
theorem bas_of{W:World}(h:laidMetH Tryz.prog Rows.certificateKindsRow.laid W)(hs:W.ShapedOpen Tryz.prog):Bas W:=⟨tab_of_laid h,Tryz.laysM145.s1_3 W hs⟩
end Go.Proofs.YtgemmbpjebijlaaGreatDoor
namespace Go.Proofs.YtgemmbpjebijlaaGreatDoor
open Go.ChangeShapes Go.WideShapes Go.ChangeAt Go.RowKit Go.Joins Go.Deep
theorem band{a b:Bool}(h:a=true)(h2:b=true):(a&&b)=true:=by rw[h,h2];rfl
theorem fMaps:mapsRowed Tryz.prog=true:=by kernel_rfl
theorem fStops:(Tryz.prog.stops==[])=true:=by kernel_rfl
theorem fKnobs:(Tryz.prog.stopKnobs==[])=true:=by kernel_rfl
theorem fPlain:(Rows.certificateKindsRow.plainKeys==Tryz.prog.plainKeys)=true:=by kernel_rfl
theorem fHeard:Tryz.prog.stopsHeard=true:=by kernel_rfl
theorem fEnter:Tryz.prog.mayEnter=true:=by kernel_rfl
theorem fLifted:(Rows.certificateKindsRow.lifted==Tryz.prog.liftsFinal)=true:=by kernel_rfl
theorem fMake:(Tryz.prog.make==some Rows.certificateKindsRow.make)=true:=by kernel_rfl
theorem fMain:Tryz.prog.mainIs=some (true,"a5367ef474640157cd9bafe4ee723f6ed6c6f860a1717146d2835ec882b50749".toList):=by kernel_rfl
theorem fLooks:false=Tryz.prog.looks []:=by kernel_rfl
end Go.Proofs.YtgemmbpjebijlaaGreatDoor
namespace Go.Proofs.YtgemmbpjebijlaaGreatDoor
open Go.RowKit
open Go.Lib (decDigits)
section
set_option maxRecDepth 100000 in
theorem frof_any(w:World){p_h0:Option Addr}{n_h0 c_h0:Nat}{l:List Frc}(hh0:SlV frK w (.slice p_h0 n_h0 c_h0) l)(hr:∀x∈l,x.Ok)(hn:l.length<=100000):
    Calls Tryz.prog 23 #[.slice p_h0 n_h0 c_h0] w fun e w'=> ∃s:Sl,e=.returned (.slice s.p s.l s.c)/\SS w [rO refK 53 s.p s.l s.c (frL l)] w':=by
  have hK:=SS.start w;have⟨n1,n2⟩:=lle hh0.one0;refine Calls.hide (fun Q0 hQ0=>?_);go_enter Tryz.func23,Tryz.ntmps23;replace hK:=hK.fact (rO refK 53 none 0 0 (frT l 0)) OwV.nil (fun _ h=>by cases h);go_wp2_with fail;go_loopw [3,4] (fun s3 s4 wl=> ∃(m:Nat) (p:Option Addr) (n:Nat) (c:Nat),s3=.slice p n c/\s4=.int .i64 (m:Int)/\(m<=l.length)/\Hid (frT l m=[]->p=none)/\SS w ([rO refK 53 p n c (frT l m)]) wl) (fun s3 s4 _=>n_h0-(intOf s4).toNat)
  case atStart=>exact⟨0,none,0,0,rfl,rfl,(by omega),hid (fun _=>rfl),hK⟩
  clear hK;obtain⟨m,p,n,c,rfl,rfl,hm0,h_e,hK⟩:=hrel;generalize wr=W1 at hK⊢;go_upto_region 3 with(fail);refine wp_region_T [0,0,0,0] hK ?_;clear hK
  iterate 3 refine e0 ?_
  refine eB (decide (((m:Int))<((n_h0:Int)))) (fun b1 hb1=>?_);refine sxEnd (fun W2 hK=>?_)
  cases b1
  . --
   have q_b1:=nlt hb1;have hme:m=l.length:=(by omega);rw[hme,frT_all]at hK;clear hme;go_wp2
   try go_ret
   show Q0 (.returned (.slice p n c)) _
   exact(qo hQ0 ⟨⟨p,n,c⟩,rfl,hK⟩)
  have q_b1:=ylt hb1;have i3:m<n_h0:=(by omega);obtain⟨g3,o3,rfl⟩:=hh0.pt i3;have l3:m<l.length:=Nat.lt_of_lt_of_eq i3 (hh0.one0);obtain⟨x,ex⟩:=gtH l3;have hxo:=hr x (List.mem_of_getElem? ex.out);have hxn:=hxo.n;have hxd:=hxo.d;unfold Rng8 at hxn hxd;obtain⟨dd,hdd⟩:∃z:Int,Hid ((if x.d=0 then 1 else x.d)=z):=⟨_,hid rfl⟩;have ldd: -128<=dd/\dd<=127:=(by rw[<-hdd.out];split<;>omega);go_upto_region 5 with(fail);refine wp_region_T [0,0,0,0,0,0,0] hK ?_;clear hK
  iterate 4 refine e0 ?_
  refine eR0 (fun w k=>(hh0.below k.old).fr1 ex.out) ?_;refine eV (.int .i64 x.d) (fun w'=>by go_simp;(try go_bits);first|exact⟨rfl,rfl⟩|(refine⟨congrArg _ ?_,rfl⟩;omega)|exact⟨congrArg _ (by simp),rfl⟩) ?_;refine e0 ?_;refine sxEnd (fun W4 hK=>?_);go_upto_region 6 with(fail);refine wp_region_T [0,0] hK ?_;clear hK;refine e0 ?_;refine eB (x.d==0) (fun b2 hb2=>?_);refine sxEnd (fun W5 hK=>?_);go_upto_if 19 with(fail);go_cut [5]from 9999 to 9999 (fun s5 wl=>s5=.int .i64 dd/\SS w ([rO refK 53 p n c (frT l m)]) wl)
  case first=>
   cases b2
   . --
    (try go_wp2)
    go_meet
    case rel=>exact⟨(congrArg (Value.int .i64) (by have q:=hb2.out;(try simp at q);rw[<-hdd.out];first|(rw[if_pos q])|(rw[if_neg q]))),hK⟩
   (try go_wp2)
   go_meet
   case rel=>exact⟨(congrArg (Value.int .i64) (by have q:=hb2.out;(try simp at q);rw[<-hdd.out];first|(rw[if_pos q])|(rw[if_neg q]))),hK⟩
  clear hK;obtain⟨rfl,hK⟩:=hcut;generalize wc=W6 at hK⊢;go_upto_region 8 with(fail);refine wp_region_T [0,0,0,0,0,0,0,0,2,3,5,0] hK ?_;clear hK
  iterate 5 refine e0 ?_
  refine eR0 (fun w k=>(hh0.below k.old).fr0 ex.out) ?_;refine eV (.int .i64 x.n) (fun w'=>by go_simp;(try go_bits);first|exact⟨rfl,rfl⟩|(refine⟨congrArg _ ?_,rfl⟩;omega)|exact⟨congrArg _ (by simp),rfl⟩) ?_;refine e0 ?_;refine eC (fun w k=>ref_S (rof_q x.n dd w (by omega) (by omega) (by omega) (by omega))) (fun x7=>?_);obtain⟨⟨p8,l8,c8⟩,⟨q8,u8,d8⟩⟩:=x7;dsimp only;refine eA (.cells #[.bool (isN (((x.n:Int):Rat)/((dd:Int):Rat))),.slice p8 l8 c8,.slice q8 u8 d8] 53) (fun R9=>?_);refine eAppK 2 refK_hd rfl 2 h_e.out rfl infoR (fun w k=>k.one1 (K:=refK) (x:=((x.n:Int):Rat)/((dd:Int):Rat)) m0 ⟨_,_,_,rfl,k.rq m1⟩) (by rw[frT_len (by omega)];simp;omega) (fun x10=>?_);obtain⟨p10,n10,c10⟩:=x10;dsimp only;refine e0 ?_;refine sxEnd (fun W11 hK=>?_);rw[show(frT l m)++[((x.n:Int):Rat)/((dd:Int):Rat)]=frT l (m+1)from by rw[<-frT_snoc ex.out];unfold frX;rw[hdd.out]]at hK
  (try go_wp2)
  go_roundw
  case rel=>exact⟨m+1,p10,n10,c10,(by first|rfl|go_num),(by first|rfl|go_num),(by omega),hid (fun e=>absurd (congrArg List.length e) (by rw[frT_len (by omega)];simp)),(hK.subl (sC2 (sC2 (sR))))⟩
  case measure=>simp[intOf]<;>omega
set_option maxRecDepth 100000 in
theorem brief_any(w:World){xp yp rp:Option Addr}{xl xc yl yc rl rc:Nat}{s:Gs}(hx:SlV frK w (.slice xp xl xc) s.x)(hy:SlV frK w (.slice yp yl yc) s.y)(hr:SlV frK w (.slice rp rl rc) s.r)(ho:s.Ok):
    Calls Tryz.prog 18 #[.agg #[.int .i8 s.k,.slice xp xl xc,.slice yp yl yc,.slice rp rl rc,.int .i8 s.z.n,.int .i8 s.z.d]] w fun e w'=>e=.returned (.bool (briG s))/\Below w.heap.size w w':=by
  have hK:=SS.start w;have hk8:=ho.k;unfold Rng8 at hk8;have⟨nx1,nx2⟩:=lle hx.one0;have nx3:=ho.xl;have⟨ny1,ny2⟩:=lle hy.one0;have ny3:=ho.yl;have⟨nr1,nr2⟩:=lle hr.one0;have nr3:=ho.rl;refine Calls.hide (fun Q0 hQ0=>?_);go_enter Tryz.func18,Tryz.ntmps18;go_upto_region 0 with(fail);refine wp_region_T [3,0] hK ?_;clear hK;refine eA (.cells #[.int .i8 s.k,.slice xp xl xc,.slice yp yl yc,.slice rp rl rc,.int .i8 s.z.n,.int .i8 s.z.d] 65) (fun R1=>?_);refine e0 ?_;refine sxEnd (fun W2 hK=>?_);go_upto_region 1 with(fail);refine wp_region_T [0,1,0,0,0,0,1,0,0,0,0,0,1,0,0,0,0] hK ?_;clear hK;refine e0 ?_;refine eL m0 ?_;refine e0 ?_;refine eB (decide (((xl:Int))<=10)) (fun b1 hb1=>?_);refine e0 ?_
  cases b1
  . --
   have q_b1:=nle hb1
   iterate 4 refine eN ?_
   iterate 2 refine e0 ?_
   iterate 4 refine eN ?_
   iterate 2 refine e0 ?_
   refine sxEnd (fun W3 hK=>?_);go_wp2
   try go_ret
   show Q0 (.returned (.bool false)) _
   exact(qo hQ0 ⟨(congrArg (fun b=>Ending.returned (.bool b)) (by have qb1:=hb1.out;(try simp at qb1);unfold briG;rw[Bool.eq_iff_iff];simp only[Bool.and_eq_true,decide_eq_true_eq];simp;omega)),hK.old⟩)
  have q_b1:=ylt hb1;refine e0 ?_;refine eL m0 ?_;refine e0 ?_;refine eB (decide (((yl:Int))<=10)) (fun b2 hb2=>?_)
  iterate 2 refine e0 ?_
  cases b2
  . --
   have q_b2:=nle hb2
   iterate 4 refine eN ?_
   iterate 2 refine e0 ?_
   refine sxEnd (fun W4 hK=>?_);go_wp2
   try go_ret
   show Q0 (.returned (.bool false)) _
   exact(qo hQ0 ⟨(congrArg (fun b=>Ending.returned (.bool b)) (by have qb1:=hb1.out;(try simp at qb1);have qb2:=hb2.out;(try simp at qb2);unfold briG;rw[Bool.eq_iff_iff];simp only[Bool.and_eq_true,decide_eq_true_eq];simp;omega)),hK.old⟩)
  have q_b2:=ylt hb2;refine e0 ?_;refine eL m0 ?_;refine e0 ?_;refine eB (decide (((rl:Int))<=10)) (fun b3 hb3=>?_)
  iterate 2 refine e0 ?_
  refine sxEnd (fun W5 hK=>?_);go_wp2
  try go_ret
  show Q0 (.returned (.bool b3)) _
  exact(qo hQ0 ⟨(congrArg (fun b=>Ending.returned (.bool b)) (by have qb1:=hb1.out;(try simp at qb1);have qb2:=hb2.out;(try simp at qb2);have qb3:=hb3.out;(try simp at qb3);unfold briG;rw[Bool.eq_iff_iff];simp only[Bool.and_eq_true,decide_eq_true_eq];rw[<-hb3.out];simp;omega)),hK.old⟩)
set_option maxRecDepth 100000 in
set_option maxHeartbeats 400000 in
theorem rguess_any(w:World){xp yp rp:Option Addr}{xl xc yl yc rl rc:Nat}{s:Gs}(hx:SlV frK w (.slice xp xl xc) s.x)(hy:SlV frK w (.slice yp yl yc) s.y)(hr:SlV frK w (.slice rp rl rc) s.r)(ho:s.Ok)(hb:s.x.length<=10/\s.y.length<=10/\s.r.length<=10):
    Calls Tryz.prog 19 #[.agg #[.int .i8 s.k,.slice xp xl xc,.slice yp yl yc,.slice rp rl rc,.int .i8 s.z.n,.int .i8 s.z.d]] w fun e w'=> ∃a:RsS,e=.returned (a.v (resG s))/\SS w [rsR a (resG s)] w':=by
  have hK:=SS.start w;have hk8:=ho.k;unfold Rng8 at hk8;have⟨nx1,nx2⟩:=lle hx.one0;have nx3:=ho.xl;have⟨ny1,ny2⟩:=lle hy.one0;have ny3:=ho.yl;have⟨nr1,nr2⟩:=lle hr.one0;have nr3:=ho.rl;refine Calls.hide (fun Q0 hQ0=>?_);go_enter Tryz.func19,Tryz.ntmps19;go_upto_region 0 with(fail);refine wp_region_T [3,3] hK ?_;clear hK;refine eA (.cells #[.int .i8 s.k,.slice xp xl xc,.slice yp yl yc,.slice rp rl rc,.int .i8 s.z.n,.int .i8 s.z.d] 65) (fun R1=>?_);refine eA (.cells #[.int .i64 0,.slice none 0 0,.slice none 0 0,.slice none 0 0,.bool false,.slice none 0 0,.slice none 0 0] 55) (fun R2=>?_);refine sxEnd (fun W3 hK=>?_);go_upto_region 1 with(fail);refine wp_region_S _ [0,0,0,0,0,2,0,0,2,0,0,2,0,0,3,2,0,2,0,4] hK ?_ (sC2 (sR));clear hK;refine e0 ?_;refine eL0 m0 ?_;refine eV (.int .i64 s.k) (fun w'=>by go_simp;(try go_bits);first|exact⟨rfl,rfl⟩|(refine⟨congrArg _ ?_,rfl⟩;omega)|exact⟨congrArg _ (by simp),rfl⟩) ?_;refine e0 ?_;refine eL0 m0 ?_;refine eC (fun w k=>frof_any w (hx.below k.old) ho.x (by have:=hb.1;omega)) (fun x4=>?_);obtain⟨px4,lx4,cx4⟩:=x4;dsimp only;refine e0 ?_;refine eL0 m0 ?_;refine eC (fun w k=>frof_any w (hy.below k.old) ho.y (by have:=hb.2.1;omega)) (fun x5=>?_);obtain⟨px5,lx5,cx5⟩:=x5;dsimp only;refine e0 ?_;refine eL0 m0 ?_;refine eC (fun w k=>frof_any w (hr.below k.old) ho.r (by have:=hb.2.2;omega)) (fun x6=>?_);obtain⟨px6,lx6,cx6⟩:=x6;dsimp only;refine e0 ?_;refine eL0 m0 ?_;refine eA (.cells #[.int .i8 s.z.n,.int .i8 s.z.d] 27) (fun R7=>?_);refine eC (fun w k=>one_row (x:=frX ⟨s.z.n,s.z.d⟩) (frof_any w (slFr1 (k.box m0)) (fun x hx=>by rw[List.mem_singleton.1 hx];exact ho.z) (by show 1<=_;decide))) (fun x9=>?_);obtain⟨g8,c8⟩:=x9;dsimp only;refine e0 ?_;refine eRr m0 (show[frX ⟨s.z.n,s.z.d⟩][0]?=some (frX ⟨s.z.n,s.z.d⟩)from rfl) (fun x10=>?_);obtain⟨⟨p10,l10,c10⟩,⟨q10,u10,d10⟩⟩:=x10;dsimp only;refine e0 ?_;refine eZ 6 0 [.int .i64 s.k,.slice px4 lx4 cx4,.slice px5 lx5 cx5,.slice px6 lx6 cx6,.bool (isN (frX ⟨s.z.n,s.z.d⟩)),.slice p10 l10 c10,.slice q10 u10 d10] ?_ (hs:=(sC2 (sC2 (sC2 (sC2 (sC2 (sC2 (sC2 (sR)))))))))
  refine sxEnd (fun W11 hK=>?_);have⟨c90,c91,c92,c93,c94,c95,c96⟩:=(hK.box m6).c7;replace hK:=hK.subl (sK2 (sC2 (sC2 (sK2 (sK2 (sK2 (sC2 (sC2 sZ2))))))));replace hK:=hK.up1;replace hK:=hK.up2;replace hK:=hK.up3;go_wp2;exact bodyPost_ret (v:=.agg #[.int .i64 s.k,.slice px4 lx4 cx4,.slice px5 lx5 cx5,.slice px6 lx6 cx6,.bool (isN (frX ⟨s.z.n,s.z.d⟩)),.slice p10 l10 c10,.slice q10 u10 d10]) (by simp[results,Tryz.results19,go_sem,c90,c91,c92,c93,c94,c95,c96]) rfl (qo hQ0 ⟨⟨⟨px4,lx4,cx4⟩,⟨px5,lx5,cx5⟩,⟨px6,lx6,cx6⟩,⟨p10,l10,c10⟩,⟨q10,u10,d10⟩⟩,rfl,SS.star.2 hK⟩)
set_option maxRecDepth 100000 in
set_option maxHeartbeats 400000 in
theorem lres_any(w:World){R:LpRes}{xp yp rp dp ep:Option Addr}{xl xc yl yc rl rc dl dc el ec:Nat}(hBs:Bas w)(hX:SlV refK w (.slice xp xl xc) R.x)(hY:SlV refK w (.slice yp yl yc) R.y)(hR:SlV refK w (.slice rp rl rc) R.r)(hZ:RefR w (.agg #[.bool (isN R.z),.slice dp dl dc,.slice ep el ec]) R.z)(hmx:LmL 50 R.x)(hmy:LmL 50 R.y)(hmr:LmL 50 R.r)(hmz:LmQ 50 R.z)(hnx:R.x.length<=100000)(hny:R.y.length<=100000)(hnr:R.r.length<=100000):
    Calls Tryz.prog 16 #[.agg #[.int .i64 R.k,.slice xp xl xc,.slice yp yl yc,.slice rp rl rc,.bool (isN R.z),.slice dp dl dc,.slice ep el ec]] w fun e w'=> ∃a:RsS,e=.returned (a.v R)/\SS w [lpR a R] w':=by
  have hK:=SS.start w;refine Calls.hide (fun Q0 hQ0=>?_);go_enter Tryz.func16,Tryz.ntmps16;go_upto_region 0 with(fail);refine wp_region_T [3,3] hK ?_;clear hK;refine eA (.cells #[.int .i64 R.k,.slice xp xl xc,.slice yp yl yc,.slice rp rl rc,.bool (isN R.z),.slice dp dl dc,.slice ep el ec] 55) (fun R1=>?_);refine eA (.cells #[.int .i64 0,.slice none 0 0,.slice none 0 0,.slice none 0 0,.bool false,.slice none 0 0,.slice none 0 0] 45) (fun R2=>?_);refine sxEnd (fun W3 hK=>?_);go_upto_region 1 with(fail);refine wp_region_S _ [0,0,0,0,2,0,0,2,0,0,2,0,0,3,2,0,2,0,4] hK ?_ (sC2 (sR));clear hK;refine e0 ?_;refine eL0 m0 ?_;refine e0 ?_;refine eL0 m0 ?_;refine eC (fun w k=>numbers_any w (hX.below k.old) (hBs.below k.old) hmx hnx) (fun x4=>?_);obtain⟨px4,lx4,cx4⟩:=x4;dsimp only;refine e0 ?_;refine eL0 m0 ?_;refine eC (fun w k=>numbers_any w (hY.below k.old) (hBs.below k.old) hmy hny) (fun x5=>?_);obtain⟨px5,lx5,cx5⟩:=x5;dsimp only;refine e0 ?_;refine eL0 m0 ?_;refine eC (fun w k=>numbers_any w (hR.below k.old) (hBs.below k.old) hmr hnr) (fun x6=>?_);obtain⟨px6,lx6,cx6⟩:=x6;dsimp only;refine e0 ?_;refine eL0 m0 ?_;refine eA (.cells #[.bool (isN R.z),.slice dp dl dc,.slice ep el ec] 53) (fun R7=>?_);refine eC (fun w k=>one_row (x:=R.z) (numbers_any w (k.one1 (K:=refK) (x:=R.z) m0 ⟨_,_,_,rfl,hZ.below k.old⟩) (hBs.below k.old) (fun x hx=>by rw[List.mem_singleton.1 hx];exact hmz) (by show 1<=_;decide))) (fun x9=>?_);obtain⟨g8,c8⟩:=x9;dsimp only;refine e0 ?_;refine eRq m0 (show[R.z][0]?=some (R.z)from rfl) (fun x10=>?_);obtain⟨⟨p10,l10,c10⟩,⟨q10,u10,d10⟩⟩:=x10;dsimp only;refine e0 ?_;refine eP 6 0 [.int .i64 R.k,.slice px4 lx4 cx4,.slice px5 lx5 cx5,.slice px6 lx6 cx6,.bool (isN (R.z)),.slice p10 l10 c10,.slice q10 u10 d10] ?_ (hs:=(sC2 (sC2 (sC2 (sC2 (sC2 (sC2 (sC2 (sR))))))))) (hq:=.inr ⟨rfl,rfl,rfl,rfl,rfl,rfl,rfl,trivial⟩);refine sxEnd (fun W11 hK=>?_);have⟨c90,c91,c92,c93,c94,c95,c96⟩:=(hK.box m6).c7;replace hK:=hK.subl (sK2 (sC2 (sC2 (sK2 (sK2 (sK2 (sC2 (sC2 sZ2))))))));replace hK:=hK.up1
  replace hK:=hK.up2;replace hK:=hK.up3;go_wp2;exact bodyPost_ret (v:=.agg #[.int .i64 R.k,.slice px4 lx4 cx4,.slice px5 lx5 cx5,.slice px6 lx6 cx6,.bool (isN (R.z)),.slice p10 l10 c10,.slice q10 u10 d10]) (by simp[results,Tryz.results16,go_sem,c90,c91,c92,c93,c94,c95,c96]) rfl (qo hQ0 ⟨⟨⟨px4,lx4,cx4⟩,⟨px5,lx5,cx5⟩,⟨px6,lx6,cx6⟩,⟨p10,l10,c10⟩,⟨q10,u10,d10⟩⟩,rfl,SS.star.2 hK⟩)
set_option maxRecDepth 100000 in
theorem is_any(w:World){x:Rat}{xn:Bool}{xp xq:Option Addr}{xl xc xu xd:Nat}{yn:Bool}{yp yq:Option Addr}{yl yc yu yd:Nat}(hBs:Bas w)(h0:RatV w (.agg #[.bool xn,.slice xp xl xc,.slice xq xu xd]) x)(h1:RefR w (.agg #[.bool yn,.slice yp yl yc,.slice yq yu yd]) x)(hx:LmQ 50 x):
    Calls Tryz.prog 20 #[.agg #[.bool xn,.slice xp xl xc,.slice xq xu xd],.agg #[.bool yn,.slice yp yl yc,.slice yq yu yd]] w fun e w'=>e=.returned (.bool true)/\Below w.heap.size w w':=by
  have hK:=SS.start w;refine Calls.hide (fun Q0 hQ0=>?_);go_enter Tryz.func20,Tryz.ntmps20;go_upto_region 0 with(fail);refine wp_region_T [3,3,0] hK ?_;clear hK;refine eA (.cells #[.bool xn,.slice xp xl xc,.slice xq xu xd] 43) (fun R1=>?_);refine eA (.cells #[.bool yn,.slice yp yl yc,.slice yq yu yd] 53) (fun R2=>?_);refine e0 ?_;refine sxEnd (fun W3 hK=>?_);go_upto_region 1 with(fail);refine wp_region_S _ [0,1,0,1,0,0] hK ?_ (sR);clear hK;refine eL0 m1 ?_;refine eQ (fun w k=>qtext_q _ _ w (h0.below k.old) (hBs.below k.old) hx (by decide)) ?_;refine eL0 m0 ?_;refine eQ (fun w k=>rtext_q _ _ w (h1.below k.old) hx (by decide)) ?_;refine eV (.bool true) (fun w'=>by go_simp;(try go_bits);first|exact⟨rfl,rfl⟩|exact⟨congrArg Value.bool (by simp),rfl⟩) ?_;refine e0 ?_;refine sxEnd (fun W4 hK=>?_);go_wp2
  try go_ret
  show Q0 (.returned (.bool true)) _
  exact(qo hQ0 ⟨rfl,hK.old⟩)
end
end Go.Proofs.YtgemmbpjebijlaaGreatDoor
