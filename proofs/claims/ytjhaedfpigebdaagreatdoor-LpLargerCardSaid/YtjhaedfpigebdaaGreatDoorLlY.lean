/- Law LpLarger: programs with up to 10 variables and 12 rows: for every input the law's function returns true; no condition. Part 7. -/
import Derived.Test.YtjhaedfpigebdaaGreatDoorQF
namespace Go.Proofs.YtjhaedfpigebdaaGreatDoor
namespace Sig
theorem php:∀(B A:Nat) (f:Nat->Nat),(∀s,s<A->f s<B)->B<A-> ∃s s',s<s'/\s'<A/\f s=f s'
  |0,A,f,h,hb=>absurd (h 0 hb) (Nat.not_lt_zero _)
  |B+1,0,f,h,hb=>absurd hb (Nat.not_lt_zero _)
  | B +1,A+1,f,h,hb=>by
    by_cases q:∃s,s<A/\f s=f A
    . obtain⟨s,h1,h2⟩:=q;exact⟨s,A,h1,Nat.lt_succ_self _,h2⟩
    have hne:∀s,s<A->f s≠f A:=fun s hs e=>q ⟨s,hs,e⟩
    have hA:=h A (Nat.lt_succ_self _)
    obtain⟨s,s',h1,h2,h3⟩:=php B A (fun s=>if f A<f s then f s-1 else f s) (fun s hs=>by
      have a:=h s (Nat.lt_succ_of_lt hs);have b:=hne s hs
      split<;>omega) (Nat.lt_of_succ_lt_succ hb)
    refine⟨s,s',h1,Nat.lt_succ_of_lt h2,?_⟩;have a:=hne s (Nat.lt_trans h1 h2);have b:=hne s' h2
    split at h3<;>split at h3<;>omega
def enc(m:Nat)(u:Nat->Nat):Nat->Nat
  |0=>0
  |n+1=>enc m u n+m^n*u n
theorem enc_lt{m:Nat}{u:Nat->Nat}:∀{n:Nat},(∀i,i<n->u i<m)->enc m u n<m^n
  |0,_=>by simp[enc]
  | n +1,h=>by
    have ih:=enc_lt (n:=n) fun i hi=>h i (Nat.lt_succ_of_lt hi)
    have h1:=h n (Nat.lt_succ_self _)
    have h2:m^n*u n+m^n<=m^n*m:=by
      have:=Nat.mul_le_mul_left (m^n) (show u n+1<=m from h1)
      rwa [Nat.mul_add,Nat.mul_one]at this
    rw[enc,Nat.pow_succ];omega
theorem enc_inj{m:Nat}{u u':Nat->Nat}:∀{n:Nat},(∀i,i<n->u i<m)->(∀i,i<n->u' i<m)->enc m u n=enc m u' n-> ∀i,i<n->u i=u' i
  |0,_,_,_,i,hi=>absurd hi (Nat.not_lt_zero _)
  | n+1,h,h',e,i,hi=>by
    have a:=enc_lt (m:=m) (u:=u) (n:=n) fun i hi=>h i (Nat.lt_succ_of_lt hi)
    have b:=enc_lt (m:=m) (u:=u') (n:=n) fun i hi=>h' i (Nat.lt_succ_of_lt hi)
    unfold enc at e;have hp:0<m^n:=Nat.lt_of_le_of_lt (Nat.zero_le _) a;have e1:=congrArg (· /m^n) e;simp only[Nat.add_mul_div_left _ _ hp,Nat.div_eq_of_lt a,Nat.div_eq_of_lt b,Nat.zero_add]at e1;rw[e1]at e;have e2:enc m u n=enc m u' n:=by omega
    rcases Nat.lt_or_ge i n with q|q
    . exact enc_inj (fun i hi=>h i (Nat.lt_succ_of_lt hi)) (fun i hi=>h' i (Nat.lt_succ_of_lt hi)) e2 i q
    rw[show i=n by omega];exact e1
def dig(m s j:Nat):Nat:=s/m^j%m
theorem dig_lt{m s j:Nat}(hm:0<m):dig m s j<m:=Nat.mod_lt _ hm
theorem enc_dig(m s:Nat):∀n,enc m (dig m s) n=s%m^n
  |0=>by simp[enc,Nat.mod_one]
  |n+1=>by rw[enc,enc_dig m s n,Nat.pow_succ,Nat.mod_mul];rfl
theorem enc_congr{m:Nat}{u u':Nat->Nat}:∀{n:Nat},(∀i,i<n->u i=u' i)->enc m u n=enc m u' n
  |0,_=>rfl
  |n+1,h=>by rw[enc,enc,enc_congr fun i hi=>h i (Nat.lt_succ_of_lt hi),h n (Nat.lt_succ_self _)]
def sm(f:Nat->Int):Nat->Int
  |0=>0
  |n+1=>sm f n+f n
theorem sm_sub{f g:Nat->Int}:∀n,sm (fun j=>f j-g j) n=sm f n-sm g n
  |0=>rfl
  |n+1=>by simp only[sm];rw[sm_sub n];omega
theorem sm_congr{f g:Nat->Int}:∀{n},(∀j,j<n->f j=g j)->sm f n=sm g n
  |0,_=>rfl
  |n+1,h=>by rw[sm,sm,sm_congr fun j hj=>h j (Nat.lt_succ_of_lt hj),h n (Nat.lt_succ_self _)]
theorem sm_le{f:Nat->Int}{B:Nat}:∀{n},(∀j,j<n->(f j).natAbs<=B)->(sm f n).natAbs<=n*B
  |0,_=>by simp[sm]
  | n+1,h=>by
    have a:=sm_le (f:=f) (B:=B) (n:=n) fun j hj=>h j (Nat.lt_succ_of_lt hj)
    have b:=h n (Nat.lt_succ_self _);rw[sm,Nat.succ_mul];omega
theorem pow_le{C Q n:Nat}(hC:1<=C):(C*Q+1)^n<=C^n*(Q+1)^n:=by
  rw[<-Nat.mul_pow];exact Nat.pow_le_pow_left (by rw[Nat.mul_add,Nat.mul_one];omega) n
theorem siegel(a:Nat->Nat->Int)(n X:Nat)(hX:1<=X)(ha:∀i j,i<n->j<n+1->(a i j).natAbs<=X):
    ∃v:Nat->Int,(∃j,j<n+1/\v j≠0)/\(∀j,(v j).natAbs<=(2*(n+1)*X)^n)/\ ∀i,i<n->sm (fun j=>a i j*v j) (n+1)=0:=by
  generalize hC:2*(n+1)*X=C;have hC1:1<=C:=by rw[<-hC];exact Nat.mul_pos (by omega) hX
  generalize hQ:C^n=Q;have hQ1:1<=Q:=by rw[<-hQ];exact Nat.pow_pos hC1
  have hm:0<Q+1:=Nat.succ_pos _
  let y:Nat->Nat->Int:=fun s i=>sm (fun j=>a i j*(dig (Q+1) s j:Int)) (n+1)
  let H:Nat:=(n+1)*(X*Q)
  have hH:2*H=C*Q:=by
    show 2*((n+1)*(X*Q))=C*Q
    rw[<-hC];simp only[Nat.mul_assoc]
  have hy:∀s i,i<n->(y s i).natAbs<=H:=fun s i hi=>sm_le fun j hj=>by
    rw[Int.natAbs_mul];exact Nat.mul_le_mul (ha i j hi hj) (by have:=dig_lt (m:=Q+1) (s:=s) (j:=j) hm;omega)
  let u:Nat->Nat->Nat:=fun s i=>(y s i+H).toNat
  have hu:∀s i,i<n->u s i<C*Q+1:=fun s i hi=>by
    have:=hy s i hi
    show(y s i+H).toNat<_
    omega
  obtain⟨s,s',h1,h2,h3⟩:=php ((C*Q+1)^n) ((Q+1)^(n+1)) (fun s=>enc (C*Q+1) (u s) n) (fun s _=>enc_lt (hu s)) (by
    have:=pow_le (C:=C) (Q:=Q) (n:=n) hC1;rw[hQ]at this;have hp:0<(Q+1)^n:=Nat.pow_pos hm;rw[Nat.pow_succ,Nat.mul_comm ((Q+1)^n),Nat.add_mul,Nat.one_mul];omega)
  have h4:=enc_inj (hu s) (hu s') h3;refine⟨fun j=>if j<n+1 then(dig (Q+1) s j:Int)-(dig (Q+1) s' j:Int)else 0,?_,fun j=>?_,fun i hi=>?_⟩
  . refine Classical.byContradiction fun hno=>?_
    have hall:∀j,j<n+1->dig (Q+1) s j=dig (Q+1) s' j:=fun j hj=>Classical.byContradiction fun hne=>hno ⟨j,hj,by dsimp only;rw[if_pos hj];omega⟩
    have e:=enc_congr (m:=Q+1) hall;rw[enc_dig,enc_dig,Nat.mod_eq_of_lt (Nat.lt_trans h1 h2),Nat.mod_eq_of_lt h2]at e;omega
  . have b1:=dig_lt (m:=Q+1) (s:=s) (j:=j) hm;have b2:=dig_lt (m:=Q+1) (s:=s') (j:=j) hm;dsimp only
    split<;>omega
  have e:=h4 i hi;have b1:=hy s i hi;have b2:=hy s' i hi
  have e2:y s i=y s' i:=by
    have e:(y s i+H).toNat=(y s' i+H).toNat:=e;omega
  rw[show sm (fun j=>a i j*(if j<n+1 then(dig (Q+1) s j:Int)-(dig (Q+1) s' j:Int)else 0)) (n+1)=sm (fun j=>a i j*(dig (Q+1) s j:Int)-a i j*(dig (Q+1) s' j:Int)) (n+1)from sm_congr fun j hj=>by rw[if_pos hj,Int.mul_sub],sm_sub];have e3:sm (fun j=>a i j*(dig (Q+1) s j:Int)) (n+1)=sm (fun j=>a i j*(dig (Q+1) s' j:Int)) (n+1):=e2;rw[e3];omega
end Sig
end Go.Proofs.YtjhaedfpigebdaaGreatDoor
namespace Go.Proofs.YtjhaedfpigebdaaGreatDoor
open Sig (sm siegel)
theorem sm_cons(f:Nat->Int):∀n,sm f (n+1)=f 0+sm (fun j=>f (j+1)) n
  |0=>by simp[sm]
  |n+1=>by rw[sm,sm_cons f n,sm];omega
theorem whole_num{X:Nat}{e:Rat}(h:Fra 1 X e):((e.num:Int):Rat)=e/\e.num.natAbs<=X:=by
  obtain⟨M,hM,he⟩:=h;have h1:e=(M:Rat):=by rw[<-he];grind
  subst h1;exact⟨rfl,hM⟩
theorem dotV_sm{w:Int->Rat}:∀(cs:List Rat) (fs:List Int) (z:Nat->Int),cs.length=fs.length->(∀e∈cs,((e.num:Int):Rat)=e)->(∀j,j<fs.length->w (fs.getD j 0)=(z j:Rat))->
    dotV w cs fs=((sm (fun j=>(cs.getD j 0).num*z j) cs.length:Int):Rat)
  |[],fs,z,_,_,_=>by rw[dotV_nil];rfl
  |c::cs,[],z,h,_,_=>by simp at h
  | c::cs,f::fs,z,h,hc,hw=>by
    have ih:=dotV_sm (w:=w) cs fs (fun j=>z (j+1)) (by simpa using h) (fun e he=>hc e (List.mem_cons_of_mem _ he)) fun j hj=>by simpa using hw (j+1) (by simpa using hj)
    have h0:=hw 0 (by simp);have hc0:=hc c (List.mem_cons_self ..);rw[List.length_cons,sm_cons];simp only[dotV,List.getD_cons_zero,List.getD_cons_succ]at h0⊢;rw[ih,h0,Rat.intCast_add,Rat.intCast_mul,hc0]
section
variable {u t:LObj}{X:Nat}
theorem row_of(hu:u.Ok)(hB:u.Bd 1 X){n:Int}(hn:n∈u.T.basic++u.T.free):∃y:LRow,Go.Proofs.YtjhaedfpigebdaaGreatDoor.Bd 1 X y/\y.cs.length=u.T.free.length/\ ∀w,u.T.Sat w->w n=y.ev w u.T.free:=by
  rcases List.mem_append.1 hn with h|h
  . obtain⟨i,hi⟩:=List.mem_iff_getElem?.1 h;have hil:i<u.T.rows.length:=by rw[<-hu.ok.nb];exact(List.getElem?_eq_some_iff.1 hi).1
    have hx:=row_getD hil;exact⟨_,hB.rows _ (List.mem_of_getElem? hx),hu.ok.row hx,fun w hw=>hw i n _ hi hx⟩
  obtain⟨k,hk⟩:=List.mem_iff_getElem?.1 h;have hkl:=(List.getElem?_eq_some_iff.1 hk).1;refine⟨⟨(List.replicate u.T.free.length 0).set k (-1),0⟩,⟨Fra.zero 1 X,fun c hc=>?_⟩,by simp,fun w _=>?_⟩
  . rcases List.mem_or_eq_of_mem_set hc with h|rfl
    . rw[(List.mem_replicate.1 h).2];exact Fra.zero 1 X
    rw[show(-1:Rat)=0-1 by grind];exact(Fra.one hB.den).neg
  unfold LRow.ev;dsimp only;rw[dotV_set w (-1) _ _ k (by simpa using hkl) hkl,show u.T.free.getD k 0=n from getD_of hk]
  have e1:(List.replicate u.T.free.length (0:Rat)).getD k 0=0:=by
    rw[List.getD,List.getElem?_replicate];split<;>rfl
  have e2:∀(m:Nat) (fs:List Int),dotV w (List.replicate m 0) fs=0:=by
    intro m
    induction m with
    |zero=>intro fs;exact dotV_nil w fs
    | succ m ih=>intro fs;cases fs with
      |nil=>rfl
      |cons f fs=>simp only[List.replicate_succ,dotV];rw[ih fs];grind
  rw[e1,e2];grind
theorem sm_bd{f:Nat->Int}{n B:Nat}(h:∀j,j<n->(f j).natAbs<=B):(sm f n).natAbs<=n*B:=Sig.sm_le h
def qS(n X:Nat):Nat:=(2*(n+1)*(X+1))^n
theorem tiny_sol(hu:u.Ok)(ht:t.Ok)(ha:Alike u t)(hB:u.Bd 1 X){v:Int->Rat}(hv:t.T.Sat v)(hc:∀f∈t.T.free,v f=0\/v f=1):
    ∃z:Int,z≠0/\z.natAbs<=qS u.T.free.length X/\ ∀g:LRow,Go.Proofs.YtjhaedfpigebdaaGreatDoor.Bd 1 X g->g.cs.length=u.T.free.length-> ∃M:Int,M.natAbs<=(u.T.free.length+1)*(X*qS u.T.free.length X)/\g.ev v u.T.free*(z:Rat)=(M:Rat):=by
  generalize hN:u.T.free.length=N;have hNt:t.T.free.length=N:=ha.nf▸hN;have hvu:u.T.Sat v:=(ha.sat v).2 hv
  have hrow:∀l,∃y:LRow,l<N->Go.Proofs.YtjhaedfpigebdaaGreatDoor.Bd 1 X y/\y.cs.length=N/\ ∀w,u.T.Sat w->w (t.T.free.getD l 0)=y.ev w u.T.free:=fun l=>by
    by_cases hl:l<N
    . obtain⟨y,h1,h2,h3⟩:=row_of hu hB ((ha.mem (t.T.free.getD l 0)).2 (List.mem_append_right _ (mem_getD (by omega))));exact⟨y,fun _=>⟨h1,by omega,h3⟩⟩
    exact⟨default,fun h=>absurd h hl⟩
  obtain⟨y,hy⟩:=Classical.axiomOfChoice hrow
  have hcl:∀l,l<N->(((v (t.T.free.getD l 0)).num:Int):Rat)=v (t.T.free.getD l 0)/\(v (t.T.free.getD l 0)).num.natAbs<=1:=fun l hl=>by
    rcases hc _ (mem_getD (l:=t.T.free) (j:=l) (by omega))with h|h<;>rw[h]<;>exact⟨rfl,by decide⟩
  obtain⟨z,⟨j0,hj0,hz0⟩,hzb,hz⟩:=siegel (fun l j=>if j<N then-((y l).cs.getD j 0).num else(y l).r.num-(v (t.T.free.getD l 0)).num) N (X+1) (by omega) (fun l j hl hj=>by
    obtain⟨h1,h2,_⟩:=hy l hl
    split
    . have:=(whole_num (h1.at j)).2;omega
    have a:=(whole_num h1.r).2;have b:=(hcl l hl).2;omega)
  have hq:∀j,(z j).natAbs<=qS N X:=hzb
  --the difference
  let zr:Int->Rat:=asg u.T.free ((List.range N).map fun j=>(z j:Rat))
  have hzr:∀j,j<N->zr (u.T.free.getD j 0)=(z j:Rat):=fun j hj=>asg_at _ _ j _ _ hu.ok.nd2 (getD_some (by omega)) (by rw[List.getElem?_map,List.getElem?_range hj];rfl)
  let e:Int->Rat:=fun n=>v n*(z N:Rat)-zr n
  let dd:Int->Rat:=fun n=>asg u.T.free (u.T.free.map e) n-asg u.T.basic (u.T.rows.map fun x=>dotV e x.cs u.T.free) n
  have hdf:∀f∈u.T.free,dd f=e f:=fun f hf=>by
    obtain⟨k,hk⟩:=List.mem_iff_getElem?.1 hf
    show asg _ _ f-asg _ _ f=_
    rw[asg_out u.T.basic _ f fun hb=>hu.ok.apart hb hf,asg_at _ _ k f (e f) hu.ok.nd2 hk (by rw[List.getElem?_map,hk];rfl)]
    grind
  have hdb:∀(i:Nat) (b:Int) (x:LRow),u.T.basic[i]?=some b->u.T.rows[i]?=some x->dd b=0-dotV e x.cs u.T.free:=fun i b x hb hx=>by
    show asg _ _ b-asg _ _ b=_
    rw[asg_out u.T.free _ b fun hf=>hu.ok.apart (List.mem_of_getElem? hb) hf,asg_at _ _ i b (dotV e x.cs u.T.free) hu.ok.nd1 hb (by rw[List.getElem?_map,hx];rfl)]
  let w:Int->Rat:=fun n=>v n+dd n
  have hdot:∀cs:List Rat,dotV w cs u.T.free=dotV v cs u.T.free+dotV e cs u.T.free:=fun cs=>by
    have h0:dotV (fun n=>(fun n=>w n-v n) n-e n) cs u.T.free=0:=dotV_zero fun f hf=>by
      show(v f+dd f)-v f-e f=0
      rw[hdf f hf];grind
    rw[dotV_subv,dotV_subv]at h0
    grind
  have hwu:u.T.Sat w:=fun i b x hb hx=>by
    show v b+dd b=_
    rw[hdb i b x hb hx];unfold LRow.ev;rw[hdot,hvu i b x hb hx];unfold LRow.ev
    grind
  have hwt:t.T.Sat w:=(ha.sat w).1 hwu
  have hfree:∀f∈t.T.free,dd f=0:=fun f hf=>by
    obtain⟨l,hl⟩:=List.mem_iff_getElem?.1 hf;have hlN:l<N:=hNt▸(List.getElem?_eq_some_iff.1 hl).1;obtain⟨h1,h2,h3⟩:=hy l hlN;have hfl:t.T.free.getD l 0=f:=getD_of hl;rw[hfl]at h3;have a:=h3 v hvu;have b:=h3 w hwu;unfold LRow.ev at a b;rw[hdot]at b;have hb:v f+dd f=(y l).r-(dotV v (y l).cs u.T.free+dotV e (y l).cs u.T.free):=b;have hS:=hz l hlN;rw[sm,if_neg (Nat.lt_irrefl N),Sig.sm_congr (g:=fun j=> -(((y l).cs.getD j 0).num*z j)) fun j hj=>by rw[if_pos hj,Int.neg_mul]]at hS
    have hneg:∀n,sm (fun j=> -(((y l).cs.getD j 0).num*z j)) n= -sm (fun j=>((y l).cs.getD j 0).num*z j) n:=by
      intro n
      induction n with
      |zero=>rfl
      |succ n ih=>simp only[sm];rw[ih];omega
    rw[hneg]at hS;have hD:=dotV_sm (w:=zr) (y l).cs u.T.free z (by omega) (fun c hc=>(whole_num (h1.cs c hc)).1) fun j hj=>hzr j (by omega)
    rw[h2]at hD;have hS2:=congrArg (fun q:Int=>(q:Rat)) hS;rw[Rat.intCast_add,Rat.intCast_neg, <-hD,Rat.intCast_mul,Rat.intCast_sub,(whole_num h1.r).1,(hcl l hlN).1,hfl]at hS2
    have hE:dotV e (y l).cs u.T.free=dotV v (y l).cs u.T.free*(z N:Rat)-dotV zr (y l).cs u.T.free:=by
      have:=dotV_subv (fun n=>v n*(z N:Rat)) zr (y l).cs u.T.free;rw[show(fun n=>(fun n=>v n*(z N:Rat)) n-zr n)=e from rfl]at this;rw[this]
      congr 1
      generalize (y l).cs=cs;generalize u.T.free=fs
      induction cs generalizing fs with
      |nil=>rw[dotV_nil,dotV_nil];grind
      | cons c cs ih=>cases fs with
        |nil=>simp only[dotV];grind
        |cons f fs=>simp only[dotV];rw[ih fs];grind
    have hS3: -dotV zr (y l).cs u.T.free+((y l).r-v f)*(z N:Rat)=0:=by
      have h00:((0:Int):Rat)=0:=rfl;rw[h00]at hS2;exact hS2
    have:dotV e (y l).cs u.T.free=0:=by rw[hE];grind
    grind
  have hall:∀n∈t.T.basic++t.T.free,dd n=0:=fun n hn=>by
    rcases List.mem_append.1 hn with h|h
    . obtain⟨i,hi⟩:=List.mem_iff_getElem?.1 h;have hil:i<t.T.rows.length:=by rw[<-ht.ok.nb];exact(List.getElem?_eq_some_iff.1 hi).1
      have hx:=row_getD hil;have a:=hv i n _ hi hx;have b:=hwt i n _ hi hx;unfold LRow.ev at a b
      have h0:dotV (fun n=>w n-v n) (t.T.rows.getD i default).cs t.T.free=0:=dotV_zero fun f hf=>by
        show(v f+dd f)-v f=0
        rw[hfree f hf];grind
      rw[dotV_subv]at h0;have b:v n+dd n=_:=b
      grind
    exact hfree n h
  have he:∀f∈u.T.free,v f*(z N:Rat)=zr f:=fun f hf=>by
    have a:=hall f ((ha.mem f).1 (List.mem_append_right _ hf));rw[hdf f hf]at a;have a:v f*(z N:Rat)-zr f=0:=a
    grind
  refine⟨z N,fun h0=>?_,hq N,fun g hg hgl=>?_⟩
  . rcases Nat.lt_or_ge j0 N with q|q
    . have a:=he _ (mem_getD (l:=u.T.free) (j:=j0) (by omega));rw[hzr j0 q,h0,show((0:Int):Rat)=0 from rfl,Rat.mul_zero]at a;exact hz0 (by exact_mod_cast a.symm)
    exact hz0 (by rw[show j0=N by omega];exact h0)
  have hD:=dotV_sm (w:=fun n=>v n*(z N:Rat)) g.cs u.T.free z (by omega) (fun c hc=>(whole_num (hg.cs c hc)).1) fun j hj=>by
    rw[he _ (mem_getD hj),hzr j (by omega)]
  have hE:dotV (fun n=>v n*(z N:Rat)) g.cs u.T.free=dotV v g.cs u.T.free*(z N:Rat):=by
    generalize g.cs=cs;generalize u.T.free=fs
    induction cs generalizing fs with
    |nil=>rw[dotV_nil,dotV_nil];grind
    | cons c cs ih=>cases fs with
      |nil=>simp only[dotV];grind
      |cons f fs=>simp only[dotV];rw[ih fs];grind
  refine⟨g.r.num*z N-sm (fun j=>(g.cs.getD j 0).num*z j) N,?_,?_⟩
  . have a:(g.r.num*z N).natAbs<=X*qS N X:=natAbs_mul_le (whole_num hg.r).2 (hq N);have b:=sm_bd (f:=fun j=>(g.cs.getD j 0).num*z j) (n:=N) (B:=X*qS N X) fun j _=>natAbs_mul_le (whole_num (hg.at j)).2 (hq j)
    rw[Nat.succ_mul];omega
  unfold LRow.ev;rw[Rat.intCast_sub,Rat.intCast_mul,(whole_num hg.r).1];rw[hgl]at hD;rw[<-hD,hE]
  grind
def bS(n X:Nat):Nat:=2*(((n+1)*(X*qS n X))*qS n X)
theorem qS_mono{n m X:Nat}(h:n<=m):qS n X<=qS m X:=
  Nat.le_trans (Nat.pow_le_pow_left (Nat.mul_le_mul_right _ (by omega)) n) (Nat.pow_le_pow_right (Nat.mul_pos (by omega) (by omega)) h)
theorem bS_mono{n m X:Nat}(h:n<=m):bS n X<=bS m X:=
  Nat.mul_le_mul_left 2 (Nat.mul_le_mul (Nat.mul_le_mul (by omega) (Nat.mul_le_mul_left X (qS_mono h))) (qS_mono h))
theorem Sml.up{Y:Nat}{s:LObj}(h:Sml X s)(hXY:X<=Y):Sml Y s:=
  ⟨fun x hx=>⟨fun c hc=>⟨Nat.le_trans ((h.rows x hx).1 c hc).1 hXY,Nat.le_trans ((h.rows x hx).1 c hc).2 hXY⟩,Nat.le_trans (h.rows x hx).2.1 hXY,Nat.le_trans (h.rows x hx).2.2 hXY⟩,
    fun x hx=>⟨fun c hc=>⟨Nat.le_trans ((h.os x hx).1 c hc).1 hXY,Nat.le_trans ((h.os x hx).1 c hc).2 hXY⟩,Nat.le_trans (h.os x hx).2.1 hXY,Nat.le_trans (h.os x hx).2.2 hXY⟩⟩
theorem fra_dif{a b:Rat}{z z' M M':Int}(h:a*(z:Rat)=(M:Rat))(h':b*(z':Rat)=(M':Rat)):(a-b)*((z*z':Int):Rat)=((M*z'-M'*z:Int):Rat):=by
  rw[Rat.intCast_sub,Rat.intCast_mul,Rat.intCast_mul,Rat.intCast_mul, <-h, <-h'];grind
theorem Alike.tiny(hu:u.Ok)(ht:t.Ok)(ha:Alike u t)(hB:u.Bd 1 X):Sml (bS u.T.free.length X) t:=by
  have hX:1<=X:=hB.den.le;generalize hN:u.T.free.length=N;have hNt:t.T.free.length=N:=ha.nf▸hN;have hQY:qS N X<=(N+1)*(X*qS N X):=Nat.le_trans (Nat.le_mul_of_pos_left _ hX) (Nat.le_mul_of_pos_left _ (Nat.succ_pos N));have hQ1:1<=qS N X:=Nat.pow_pos (Nat.mul_pos (by omega) (by omega))
  --a difference of two solutions
  have dif:∀(v v':Int->Rat) (g:LRow),t.T.Sat v->t.T.Sat v'->(∀f∈t.T.free,v f=0\/v f=1)->(∀f∈t.T.free,v' f=0\/v' f=1)->Go.Proofs.YtjhaedfpigebdaaGreatDoor.Bd 1 X g->g.cs.length=u.T.free.length->
      (g.ev v u.T.free-g.ev v' u.T.free).num.natAbs<=bS N X/\(g.ev v u.T.free-g.ev v' u.T.free).den<=bS N X:=fun v v' g hv hv' h1 h2 hg hgl=>by
    obtain⟨z,a1,a2,a3⟩:=tiny_sol hu ht ha hB hv h1;obtain⟨z',b1,b2,b3⟩:=tiny_sol hu ht ha hB hv' h2;obtain⟨M,a4,a5⟩:=a3 g hg hgl;obtain⟨M',b4,b5⟩:=b3 g hg hgl;rw[hN]at a2 b2 a4 b4;have m1:=natAbs_mul_le a4 b2;have m2:=natAbs_mul_le b4 a2;have m3:=natAbs_mul_le a2 b2;have m4:qS N X*qS N X<=(N+1)*(X*qS N X)*qS N X:=Nat.mul_le_mul_right _ hQY;refine Fra.num (D:=z*z') ⟨M*z'-M'*z,?_,fra_dif a5 b5⟩ ⟨fun e=>?_,?_⟩
    . unfold bS;omega
    . rcases Int.mul_eq_zero.1 e with e|e
      . exact a1 e
      exact b1 e
    unfold bS;omega
  have one:∀(v:Int->Rat) (g:LRow),t.T.Sat v->(∀f∈t.T.free,v f=0\/v f=1)->Go.Proofs.YtjhaedfpigebdaaGreatDoor.Bd 1 X g->g.cs.length=u.T.free.length->
      (g.ev v u.T.free).num.natAbs<=bS N X/\(g.ev v u.T.free).den<=bS N X:=fun v g hv h1 hg hgl=>by
    obtain⟨z,a1,a2,a3⟩:=tiny_sol hu ht ha hB hv h1;obtain⟨M,a4,a5⟩:=a3 g hg hgl;rw[hN]at a2 a4;have m5:(N+1)*(X*qS N X)*1<=(N+1)*(X*qS N X)*qS N X:=Nat.mul_le_mul_left _ hQ1;refine Fra.num (D:=z) ⟨M,?_,a5⟩ ⟨a1,?_⟩
    . unfold bS;omega
    unfold bS;omega
  have hs:=ht.ok.sat_sol;have hs0:∀f∈t.T.free,t.T.sol f=0\/t.T.sol f=1:=fun f hf=>.inl (ht.ok.sol_free hf)
  have hp0:∀k,k<t.T.free.length-> ∀f∈t.T.free,t.T.pt k 1 f=0\/t.T.pt k 1 f=1:=fun k hk f hf=>by
    obtain⟨m,hm⟩:=List.mem_iff_getElem?.1 hf
    by_cases e:m=k
    . subst e;right;rw[<-getD_of (d:=(0:Int)) hm];exact LTab.pt_j _ _ _
    left;exact ht.ok.pt_free hk 1 e hm
  refine⟨fun y hy=>?_,fun y hy=>?_⟩
  . obtain⟨r,hr⟩:=List.mem_iff_getElem?.1 hy;have hrl:r<t.T.basic.length:=by rw[ht.ok.nb];exact(List.getElem?_eq_some_iff.1 hr).1
    have hbr:=getD_some hrl;obtain⟨g,g1,g2,g3⟩:=row_of hu hB ((ha.mem _).2 (List.mem_append_left _ (List.mem_of_getElem? hbr)));have e0:y.r=g.ev t.T.sol u.T.free:=by rw[<-g3 _ ((ha.sat _).2 hs),ht.ok.sol_at hbr hr]
    refine⟨fun c hc=>?_,by rw[e0];exact one _ _ hs hs0 g1 g2⟩;obtain⟨k,hk,rfl⟩:=mem_getD_r hc;rw[ht.ok.row hr]at hk
    have e1:y.cs.getD k 0=g.ev t.T.sol u.T.free-g.ev (t.T.pt k 1) u.T.free:=by
      rw[<-g3 _ ((ha.sat _).2 hs), <-g3 _ ((ha.sat _).2 (ht.ok.sat_pt hk 1)),ht.ok.sol_at hbr hr,ht.ok.pt_at hk 1 hbr hr];grind
    rw[e1];exact dif _ _ _ hs (ht.ok.sat_pt hk 1) hs0 (hp0 k hk) g1 g2
  obtain⟨o,ho⟩:=List.mem_iff_getElem?.1 hy;have hol:o<u.os.length:=by rw[ha.n];exact(List.getElem?_eq_some_iff.1 ho).1
  obtain⟨g,hg⟩:∃g,u.os[o]?=some g:=⟨_,List.getElem?_eq_getElem hol⟩;have g1:=hB.os g (List.mem_of_getElem? hg);have g2:=hu.len g (List.mem_of_getElem? hg);have hyl:=ht.len y hy
  have e0:y.r=g.ev t.T.sol u.T.free:=by
    rw[ha.val o g y _ hg ho hs];unfold LRow.ev;rw[dotV_zero fun n hn=>ht.ok.sol_free hn];grind
  refine⟨fun c hc=>?_,by rw[e0];exact one _ _ hs hs0 g1 g2⟩;obtain⟨k,hk,rfl⟩:=mem_getD_r hc;rw[hyl]at hk
  have e1:y.cs.getD k 0=g.ev t.T.sol u.T.free-g.ev (t.T.pt k 1) u.T.free:=by
    rw[<-e0,ha.val o g y _ hg ho (ht.ok.sat_pt hk 1)];unfold LRow.ev;rw[ht.ok.pt_dot hk 1 hyl];grind
  rw[e1];exact dif _ _ _ hs (ht.ok.sat_pt hk 1) hs0 (hp0 k hk) g1 g2
theorem LimS.tiny{P:LPd}(h:FrP 1 X P)(hP:P.Ok){n:Nat}(hn:P.c.length+1<=n):LimS (bS n X) P:=
  ⟨fun s hs ha=>(Alike.tiny hP.init hs ha.symm h.init).up (bS_mono (by show(cls P.A.length P.c.length).length<=n;rw[cls_len];omega)),
   fun s hs ha=>(Alike.tiny hP.initA hs ha.symm h.initA).up (bS_mono (by show(cls P.A.length P.c.length++[-1]).length<=n;rw[List.length_append,cls_len];exact hn))⟩
end
end Go.Proofs.YtjhaedfpigebdaaGreatDoor
namespace Go.Proofs.YtjhaedfpigebdaaGreatDoor
open Go.RowKit
open Go.Lib (decDigits)
def entE(raw:List Int)(i:Nat):Int:=(raw.getD (i%raw.length) 0).tmod 4
theorem tmod4(x:Int): -3<=x.tmod 4/\x.tmod 4<=3:=by
  have h1:=Int.tmod_lt_of_pos x (show(0:Int)<4 by decide);have h2:=Int.tmod_lt_of_pos (-x) (show(0:Int)<4 by decide);rw[Int.neg_tmod]at h2;omega
def entL(raw:List Int)(f m:Nat):List Rat:=(List.range m).map fun k=>((entE raw (f+k):Int):Rat)
theorem entL_len(raw:List Int)(f m:Nat):(entL raw f m).length=m:=by simp[entL]
theorem entL_snoc(raw:List Int)(f m:Nat):entL raw f m++[((entE raw (f+m):Int):Rat)]=entL raw f (m+1):=by unfold entL;rw[List.range_succ,List.map_append];rfl
theorem entL_snoc0(raw:List Int)(m:Nat):entL raw 0 m++[((entE raw m:Int):Rat)]=entL raw 0 (m+1):=by rw[<-entL_snoc,Nat.zero_add]
def rowsE(raw:List Int)(co m:Nat):List (List Rat):=(List.range m).map fun i=>entL raw ((i+1)*(co+1)) co
theorem rowsE_len(raw:List Int)(co m:Nat):(rowsE raw co m).length=m:=by simp[rowsE]
theorem rowsE_snoc{raw:List Int}{co m ba:Nat}(h:(m+1)*(co+1)=ba):rowsE raw co m++[entL raw ba co]=rowsE raw co (m+1):=by subst h;unfold rowsE;rw[List.range_succ,List.map_append];rfl
def bE(raw:List Int)(co m:Nat):List Rat:=(List.range m).map fun i=>((entE raw ((i+1)*(co+1)+co):Int):Rat)
theorem bE_len(raw:List Int)(co m:Nat):(bE raw co m).length=m:=by simp[bE]
theorem bE_snoc{raw:List Int}{co m ba:Nat}(h:(m+1)*(co+1)=ba):bE raw co m++[((entE raw (ba+co):Int):Rat)]=bE raw co (m+1):=by subst h;unfold bE;rw[List.range_succ,List.map_append];rfl
def lrgE(raw:List Int)(co ro:Nat):LPd:=⟨entL raw 0 co,rowsE raw co ro,bE raw co ro⟩
theorem ent_fra(raw:List Int)(i:Nat):Fra 1 3 ((entE raw i:Int):Rat):=⟨entE raw i,by have q:=tmod4 (raw.getD (i%raw.length) 0);show Int.natAbs (Int.tmod _ 4)<=3;omega,by grind⟩
theorem bS_lt:bS 11 3<B32^50:=by decide
theorem lrg_ok{raw:List Int}{co ro:Nat}{Q:LPd}(hQ:lrgE raw co ro=Q)(h1:1<=co)(h2:co<=10)(h3:ro<=12):vldP Q=true/\LmP 50 Q/\LimS (bS 11 3) Q:=by
  subst hQ;have hc:(lrgE raw co ro).c.length=co:=entL_len ..;have hA:(lrgE raw co ro).A.length=ro:=rowsE_len ..
  have hok:(lrgE raw co ro).Ok:=⟨by rw[hA];exact bE_len ..,fun r hr=>by
    obtain⟨i,_,rfl⟩:=List.mem_map.1 hr;rw[hc];exact entL_len ..⟩
  have hF:FrP 1 3 (lrgE raw co ro):=by
    refine⟨⟨by decide,by decide⟩,fun e he=>?_,fun r hr e he=>?_,fun e he=>?_⟩
    . obtain⟨i,_,rfl⟩:=List.mem_map.1 he;exact ent_fra ..
    . obtain⟨i,_,rfl⟩:=List.mem_map.1 hr;obtain⟨j,_,rfl⟩:=List.mem_map.1 he;exact ent_fra ..
    obtain⟨i,_,rfl⟩:=List.mem_map.1 he;exact ent_fra ..
  exact⟨ok_vld hok (by omega) (by omega) (by omega),hF.lm (by decide) (by omega) (by omega),LimS.tiny hF hok (by omega)⟩
set_option maxRecDepth 100000 in
theorem entry_any(w:World){p_h0:Option Addr}{n_h0 c_h0:Nat}{raw:List Int}(hh0:SlV i8K w (.slice p_h0 n_h0 c_h0) raw)(i0:Nat)(h0:0<raw.length)(h2:raw.length<=200)(hr:∀z∈raw,Rng8 z)(hi:i0<=100000):
    Calls Tryz.prog 23 #[.slice p_h0 n_h0 c_h0,.int .i64 (i0:Int)] w fun e w'=> ∃x:Duo Sl Sl,e=.returned (.agg #[.bool (isN (((entE raw i0:Int):Rat))),.slice x.a.p x.a.l x.a.c,.slice x.b.p x.b.l x.b.c])/\SS w [rF (.agg #[.bool (isN (((entE raw i0:Int):Rat))),.slice x.a.p x.a.l x.a.c,.slice x.b.p x.b.l x.b.c]) (((entE raw i0:Int):Rat))] w':=by
  have hK:=SS.start w;have⟨n1,n2⟩:=lle hh0.one0;refine Calls.hide (fun Q0 hQ0=>?_);go_enter Tryz.func23,Tryz.ntmps23;go_upto_region 0 with(fail);refine wp_region_T [3] hK ?_;clear hK;refine eA (.cells #[.bool false,.slice none 0 0,.slice none 0 0] 34) (fun R1=>?_);refine sxEnd (fun W2 hK=>?_);obtain⟨jx,hjx⟩:∃jx,Hid (i0%raw.length=jx):=⟨_,hid rfl⟩;have hjl:jx<raw.length:=(by rw[<-hjx.out];exact Nat.mod_lt _ h0);have hjn:jx<n_h0:=(by have q:=hh0.one0;omega);have i3:jx<n_h0:=hjn;obtain⟨g3,o3,rfl⟩:=hh0.pt i3;have l3:jx<raw.length:=Nat.lt_of_lt_of_eq i3 (hh0.one0);obtain⟨xk,exk⟩:=gtH l3;have qxk:=hr _ (List.mem_of_getElem? exk.out);unfold Rng8 at qxk;obtain⟨z,hez⟩:∃z,Hid (entE raw i0=z):=⟨_,hid rfl⟩;have hz:Hid (xk.tmod 4=z):=hid (by rw[<-hez.out];unfold entE;rw[hjx.out,getD_of exk.out]);have hz4:=hz.out▸tmod4 xk;go_upto_region 1 with(fail);refine wp_region_T [0,0,0,0,0,0,0,0,0,2,4] hK ?_;clear hK
  iterate 4 refine e0 ?_
  refine eV (.int .i64 (jx:Int)) (fun w'=>by go_simp;(try go_bits);(try rw[if_neg (by omega)]);refine⟨congrArg _ ?_,rfl⟩;rw[<-hjx.out,Int.natCast_emod];congr 1;omega) ?_;refine e0 ?_;refine eR0 (fun w k=>(hh0.below k.old).i8 exk.out) ?_;refine eV (.int .i64 xk) (fun w'=>by go_simp;(try go_bits);first|exact⟨rfl,rfl⟩|go_num) ?_;refine eV (.int .i64 z) (fun w'=>by go_simp;(try go_bits);refine⟨congrArg _ ?_,rfl⟩;rw[<-hz.out];(try rfl)) ?_;refine eC (fun w k=>ref_S (rint_q z w (by omega) (by omega))) (fun x4=>?_);obtain⟨⟨p5,l5,c5⟩,⟨q5,u5,d5⟩⟩:=x4;dsimp only;refine eP 1 0 [.bool (isN (((z:Int):Rat))),.slice p5 l5 c5,.slice q5 u5 d5] ?_ (hq:=.inr ⟨rfl,trivial⟩);refine sxEnd (fun W6 hK=>?_);have⟨c90,c91,c92⟩:=(hK.box m1).c3;replace hK:=hK.subl (sK2 (sC2 sZ2));go_wp2;exact bodyPost_ret (v:=.agg #[.bool (isN (((z:Int):Rat))),.slice p5 l5 c5,.slice q5 u5 d5]) (by simp[results,Tryz.results23,go_sem,c90,c91,c92]) rfl (by obtain rfl:=hQ0.out;rw[hez.out];exact⟨⟨⟨p5,l5,c5⟩,⟨q5,u5,d5⟩⟩,rfl,hK⟩)
set_option maxRecDepth 100000 in
set_option maxHeartbeats 1000000 in
theorem lpLarger_any(w:World){nv:Nat}{mv:Nat}{p_h0:Option Addr}{n_h0 c_h0:Nat}{raw:List Int}(hh0:SlV i8K w (.slice p_h0 n_h0 c_h0) raw)(hraw:∀z∈raw,Rng8 z)(hBs:Bas w)(hn8:nv<256)(hm8:mv<256):
    Calls Tryz.prog 8 #[.int .u8 (nv:Int),.int .u8 (mv:Int),.slice p_h0 n_h0 c_h0] w fun e w'=>e=.returned (.bool true)/\Below w.heap.size w w':=by
  have hK:=SS.start w;have⟨n1,n2⟩:=lle hh0.one0;refine Calls.hide (fun Q0 hQ0=>?_);go_enter Tryz.func8,Tryz.ntmps8;go_upto_region 1 with(fail);refine wp_region_T [1,0] hK ?_;clear hK;refine eQ (fun w k=>awake40_any w (hBs.below k.old)) ?_;refine e0 ?_;refine sxEnd (fun W1 hK=>?_);go_upto_region 3 with(fail);refine wp_region_T [0,0,0,0,0,0,0,0] hK ?_;clear hK
  iterate 2 refine e0 ?_
  refine eB (decide (200<((n_h0:Int)))) (fun b1 hb1=>?_);refine e0 ?_
  cases b1
  . --
   have q_b1:=nlt hb1
   iterate 2 refine e0 ?_
   refine eB (((n_h0:Int))==0) (fun b2 hb2=>?_);refine e0 ?_;refine sxEnd (fun W2 hK=>?_)
   cases b2
   . --
    go_upto_region 5 with(fail);refine wp_region_T [3] hK ?_;clear hK;refine eA (.cells #[.slice none 0 0,.slice none 0 0,.slice none 0 0] 29) (fun R3=>?_);refine sxEnd (fun W4 hK=>?_);have hl0:0<raw.length:=(by have q:=hh0.one0;have qb1:=hb1.out;(try simp at qb1);have qb2:=hb2.out;(try simp at qb2);(try simp at*);omega);have hl2:raw.length<=200:=(by have q:=hh0.one0;have qb1:=hb1.out;(try simp at qb1);have qb2:=hb2.out;(try simp at qb2);(try simp at*);omega);obtain⟨co,hco⟩:∃co,Hid (1+nv%10=co):=⟨_,hid rfl⟩;obtain⟨ro,hro⟩:∃ro,Hid (mv%13=ro):=⟨_,hid rfl⟩;have hco1:1<=co:=(by have q:=hco.out;omega);have hco2:co<=10:=(by have q:=hco.out;omega);have hro2:ro<=12:=(by have q:=hro.out;omega);go_upto_region 6 with(fail);refine wp_region_T [0,0,0,0,0] hK ?_;clear hK;refine e0 ?_;refine eV (.int .u8 ((nv%10:Nat):Int)) (fun w'=>by go_simp;(try go_bits);first|exact⟨rfl,rfl⟩|(refine⟨congrArg _ ?_,rfl⟩;omega)|exact⟨congrArg _ (by simp),rfl⟩) ?_;refine eV (.int .i64 ((nv%10:Nat):Int)) (fun w'=>by go_simp;(try go_bits);first|exact⟨rfl,rfl⟩|(refine⟨congrArg _ ?_,rfl⟩;omega)|exact⟨congrArg _ (by simp),rfl⟩) ?_;refine eV (.int .i64 (co:Int)) (fun w'=>by go_simp;(try go_bits);refine⟨congrArg _ ?_,rfl⟩;have q:=hco.out;omega) ?_;refine e0 ?_;refine sxEnd (fun W5 hK=>?_);replace hK:=hK.fact (rO refK 34 none 0 0 (entL raw 0 0)) OwV.nil (fun _ h=>by cases h);go_wp2_with fail;go_loopw [9] (fun s9 wl=> ∃(k1:Nat) (p:Option Addr) (n:Nat) (c:Nat),s9=.int .i64 (k1:Int)/\(k1<=co)/\Hid (entL raw 0 k1=[]->p=none)/\SS w ([rO refK 34 p n c (entL raw 0 k1),bx R3 (.cells #[.slice p n c,.slice none 0 0,.slice none 0 0] 29)]) wl) (fun s9 _=>co-(intOf s9).toNat)
    case atStart=>exact⟨0,none,0,0,rfl,(by omega),hid (fun _=>rfl),hK⟩
    clear hK;obtain⟨k1,p,n,c,rfl,hk1,h_e,hK⟩:=hrel;generalize wr=W6 at hK⊢;go_upto_region 8 with(fail);refine wp_region_T [0,0,0] hK ?_;clear hK
    iterate 2 refine e0 ?_
    refine eB (decide (((k1:Int))<((co:Int)))) (fun b3 hb3=>?_);refine sxEnd (fun W7 hK=>?_)
    cases b3
    . --
     have q_b3:=nlt hb3;have hke:k1=co:=(by omega);rw[hke]at hK;clear hke;replace hK:=hK.fact (rO slcR 26 none 0 0 ([]:List Sl)) OwV.nil (fun _ h=>by cases h);replace hK:=hK.rs0 refK 34;replace hK:=hK.fact (rO refK 34 none 0 0 (bE raw co 0)) OwV.nil (fun _ h=>by cases h);go_wp2_with fail;go_loopw [10] (fun s10 wl=> ∃(mi:Nat) (pa:Option Addr) (na:Nat) (ca:Nat) (ss:List Sl) (pb:Option Addr) (nb:Nat) (cb:Nat),s10=.int .i64 (mi:Int)/\(mi<=ro)/\Hid (ss.length=(rowsE raw co mi).length)/\Hid (ss=[]->pa=none)/\Hid (bE raw co mi=[]->pb=none)/\SS w ([rO refK 34 pb nb cb (bE raw co mi),rsF refK 34 ss (rowsE raw co mi),rO slcR 26 pa na ca ss,rO refK 34 p n c (entL raw 0 co),bx R3 (.cells #[.slice p n c,.slice pa na ca,.slice pb nb cb] 29)]) wl) (fun s10 _=>ro-(intOf s10).toNat)
     case atStart=>exact⟨0,none,0,0,[],none,0,0,rfl,(by omega),hid rfl,hid (fun _=>rfl),hid (fun _=>rfl),hK⟩
     clear hK;obtain⟨mi,pa,na,ca,ss,pb,nb,cb,rfl,hmi,h_l,h_a,h_b,hK⟩:=hrel;generalize wr=W8 at hK⊢;go_upto_region 12 with(fail);refine wp_region_T [0,0,0,0,0] hK ?_;clear hK
     iterate 2 refine e0 ?_
     refine eV (.int .u8 ((mv%13:Nat):Int)) (fun w'=>by go_simp;(try go_bits);first|exact⟨rfl,rfl⟩|(refine⟨congrArg _ ?_,rfl⟩;omega)|exact⟨congrArg _ (by simp),rfl⟩) ?_;refine eV (.int .i64 (ro:Int)) (fun w'=>by go_simp;(try go_bits);refine⟨congrArg _ ?_,rfl⟩;have q:=hro.out;omega) ?_;refine eB (decide (((mi:Int))<((ro:Int)))) (fun b4 hb4=>?_);refine sxEnd (fun W9 hK=>?_)
     cases b4
     . --
      have q_b4:=nlt hb4;have hme:mi=ro:=(by omega);rw[hme]at hK h_l;clear hme;obtain⟨QL,hQL⟩:∃QL,Hid (lrgE raw co ro=QL):=⟨_,hid rfl⟩;replace hK:=hK.up1;replace hK:=hK.up2;replace hK:=hK.up3;replace hK:=hK.fact (cF (List.length ss=(QL).A.length)) (show List.length _=_ from by rw[h_l.out, <-hQL.out];rfl);rw[show entL raw 0 co=QL.c from congrArg LPd.c hQL.out]at hK;rw[show rowsE raw co ro=QL.A from congrArg LPd.A hQL.out]at hK;rw[show bE raw co ro=QL.b from congrArg LPd.b hQL.out]at hK;replace hK:SS w (pgF refK 34 26 ⟨⟨p,n,c⟩,⟨pa,na,ca⟩,⟨pb,nb,cb⟩,ss⟩ QL::[bx R3 (.cells #[.slice p n c,.slice pa na ca,.slice pb nb cb] 29)]) W9:=SS.star.2 hK;have⟨hvQ,hmQ,hSQ⟩:=lrg_ok hQL.out hco1 hco2 hro2;go_upto_region 21 with(fail);refine wp_region_T [1,2,0,0,0,3,4,0] hK ?_;clear hK;refine eL m1 ?_;refine eC (fun w k=>lsolve_any w (k.pg m0).1 (k.pg m0).2.1 (k.pg m0).2.2 (hBs.below k.old) hvQ hmQ hSQ bS_lt) (fun x11=>?_);obtain⟨⟨⟨t12xp,t12xl,t12xc⟩,⟨t12yp,t12yl,t12yc⟩,⟨t12rp,t12rl,t12rc⟩,⟨t12dp,t12dl,t12dc⟩,⟨t12ep,t12el,t12ec⟩⟩,Rt12⟩:=x11;dsimp only[RsS.v]
      iterate 3 refine e0 ?_
      refine eA (.cells #[.int .i64 0,.slice none 0 0,.slice none 0 0,.slice none 0 0,.bool false,.slice none 0 0,.slice none 0 0] 36) (fun R13=>?_);refine eZ 0 0 [.int .i64 Rt12.k,.slice t12xp t12xl t12xc,.slice t12yp t12yl t12yc,.slice t12rp t12rl t12rc,.bool (isN Rt12.z),.slice t12dp t12dl t12dc,.slice t12ep t12el t12ec] ?_;refine e0 ?_;refine sxEnd (fun W14 hK=>?_);go_wp2
      try go_ret
      show Q0 (.returned (.bool true)) _
      exact(qo hQ0 ⟨rfl,hK.old⟩)
     have q_b4:=ylt hb4;obtain⟨ba,hba⟩:∃ba,Hid ((mi+1)*(co+1)=ba):=⟨_,hid rfl⟩;have hba1:ba<=12*11:=(by rw[<-hba.out];exact Nat.mul_le_mul (by omega) (by omega));have hbz:Hid ((((mi:Nat):Int)+1)*(((co:Nat):Int)+1)=((ba:Nat):Int)):=(by rw[<-hba.out];exact hid (by rw[Int.natCast_mul];rfl));replace hK:=hK.fact (rO refK 34 none 0 0 (entL raw ba 0)) OwV.nil (fun _ h=>by cases h);go_wp2_with fail;go_loopw [11,12] (fun s11 s12 wl=> ∃(mj:Nat) (pr:Option Addr) (nr:Nat) (cr:Nat),s11=.slice pr nr cr/\s12=.int .i64 (mj:Int)/\(mj<=co)/\Hid (entL raw ba mj=[]->pr=none)/\SS w ([rO refK 34 pr nr cr (entL raw ba mj),rO refK 34 pb nb cb (bE raw co mi),rsF refK 34 ss (rowsE raw co mi),rO slcR 26 pa na ca ss,rO refK 34 p n c (entL raw 0 co),bx R3 (.cells #[.slice p n c,.slice pa na ca,.slice pb nb cb] 29)]) wl) (fun s11 s12 _=>co-(intOf s12).toNat)
     case atStart=>exact⟨0,none,0,0,rfl,rfl,(by omega),hid (fun _=>rfl),hK⟩
     clear hK;obtain⟨mj,pr,nr,cr,rfl,rfl,hmj,h_r,hK⟩:=hrel;generalize wr=W15 at hK⊢;go_upto_region 16 with(fail);refine wp_region_T [0,0,0] hK ?_;clear hK
     iterate 2 refine e0 ?_
     refine eB (decide (((mj:Int))<((co:Int)))) (fun b5 hb5=>?_);refine sxEnd (fun W16 hK=>?_)
     cases b5
     . --
      have q_b5:=nlt hb5;go_upto_region 19 with(fail);refine wp_region_T [0,1,0,3,5,0,4] hK ?_;clear hK;refine e0 ?_;refine eL m5 ?_;refine e0 ?_;refine eA (.cells #[.slice pr nr cr] 26) (fun R17=>?_);refine eAppK 3 slcR_hd rfl 4 h_a.out rfl infoSR (fun w k=>k.one1 (K:=slcR) (x:=⟨pr,nr,cr⟩) m0 rfl) (by rw[h_l.out,rowsE_len];simp;omega) (fun x18=>?_);obtain⟨p18,n18,c18⟩:=x18;dsimp only;refine e0 ?_;refine eP 6 1 [.slice p18 n18 c18] ?_ (hq:=.inr ⟨rfl,rfl,rfl,rfl,rfl,rfl,trivial⟩);refine sxEnd (fun W19 hK=>?_);have hme:mj=co:=(by omega);rw[hme]at hK;clear hme;replace hK:=hK.up3;replace hK:=hK.up2;replace hK:=SS.rsN (s:=⟨pr,nr,cr⟩) (xs:=entL raw ba co) hK h_l.out;rw[show(rowsE raw co mi)++[entL raw ba co]=rowsE raw co (mi+1)from(rowsE_snoc hba.out)]at hK;go_upto_region 20 with(fail);refine wp_region_S _ [0,1,0,0,0,0,0,0,0,0,2,3,5,0,4] hK ?_ (sK2 (sK2 (sC2 (sK2 (sK2 (sC2 sZ2))))));clear hK;refine e0 ?_;refine eL m5 ?_
      iterate 5 refine e0 ?_
      refine eV (.int .i64 (ba:Int)) (fun w'=>by go_simp;(try go_bits);rw[hbz.out];exact⟨congrArg _ (by unfold wrap64;omega),rfl⟩) ?_;refine e0 ?_;refine eV (.int .i64 ((ba+co:Nat):Int)) (fun w'=>by go_simp;(try go_bits);first|exact⟨rfl,rfl⟩|(refine⟨congrArg _ ?_,rfl⟩;omega)|exact⟨congrArg _ (by simp),rfl⟩) ?_;refine eC (fun w k=>entry_any w (hh0.below k.old) (ba+co:Nat) hl0 hl2 hraw (by omega)) (fun x20=>?_);obtain⟨⟨p21,l21,c21⟩,⟨q21,u21,d21⟩⟩:=x20;dsimp only;refine eA (.cells #[.bool (isN (((entE raw (ba+co:Nat):Int):Rat))),.slice p21 l21 c21,.slice q21 u21 d21] 34) (fun R22=>?_);refine eAppK 2 refK_hd rfl 4 h_b.out rfl infoR (fun w k=>k.one1 (K:=refK) (x:=((entE raw (ba+co:Nat):Int):Rat)) m0 ⟨_,_,_,rfl,k.rq m1⟩) (by rw[bE_len];simp;omega) (fun x23=>?_) (hs:=fun _=>(sC2 (sC2 (sK2 (sK2 (sC2 (sK2 (sK2 (sC2 sZ2)))))))));obtain⟨p23,n23,c23⟩:=x23;dsimp only;refine e0 ?_;refine eP 7 2 [.slice p23 n23 c23] ?_ (hs:=(sC2 (sC2 (sK2 (sK2 (sC2 (sK2 (sK2 (sC2 sZ2))))))))) (hq:=.inr ⟨rfl,rfl,rfl,rfl,rfl,rfl,rfl,trivial⟩);refine sxEnd (fun W24 hK=>?_);rw[show(bE raw co mi)++[((entE raw (ba+co:Nat):Int):Rat)]=bE raw co (mi+1)from(bE_snoc hba.out)]at hK
      (try go_wp2)
      go_roundw
      case rel=>exact⟨mi+1,p18,n18,c18,ss++[⟨pr,nr,cr⟩],p23,n23,c23,(by first|rfl|go_num),(by omega),hid (by rw[List.length_append,h_l.out,rowsE_len,rowsE_len];rfl),hid (fun e=>absurd (congrArg List.length e) (by simp)),hid (fun e=>absurd (congrArg List.length e) (by rw[bE_len];simp)),(hK.subl (sC2 (sC2 (sK2 (sC2 (List.Sublist.refl _)))))).up4.up4.up4.up3.up4⟩
      case measure=>simp[intOf]<;>omega
     have q_b5:=ylt hb5;go_upto_region 18 with(fail);refine wp_region_T [0,0,0,0,0,0,0,0,0,2,3,5,0] hK ?_;clear hK
     iterate 6 refine e0 ?_
     refine eV (.int .i64 (ba:Int)) (fun w'=>by go_simp;(try go_bits);rw[hbz.out];exact⟨congrArg _ (by unfold wrap64;omega),rfl⟩) ?_;refine e0 ?_;refine eV (.int .i64 ((ba+mj:Nat):Int)) (fun w'=>by go_simp;(try go_bits);first|exact⟨rfl,rfl⟩|(refine⟨congrArg _ ?_,rfl⟩;omega)|exact⟨congrArg _ (by simp),rfl⟩) ?_;refine eC (fun w k=>entry_any w (hh0.below k.old) (ba+mj:Nat) hl0 hl2 hraw (by omega)) (fun x25=>?_);obtain⟨⟨p26,l26,c26⟩,⟨q26,u26,d26⟩⟩:=x25;dsimp only;refine eA (.cells #[.bool (isN (((entE raw (ba+mj:Nat):Int):Rat))),.slice p26 l26 c26,.slice q26 u26 d26] 34) (fun R27=>?_);refine eAppK 2 refK_hd rfl 2 h_r.out rfl infoR (fun w k=>k.one1 (K:=refK) (x:=((entE raw (ba+mj:Nat):Int):Rat)) m0 ⟨_,_,_,rfl,k.rq m1⟩) (by rw[entL_len];simp;omega) (fun x28=>?_);obtain⟨p28,n28,c28⟩:=x28;dsimp only;refine e0 ?_;refine sxEnd (fun W29 hK=>?_);rw[show(entL raw ba mj)++[((entE raw (ba+mj:Nat):Int):Rat)]=entL raw ba (mj+1)from(entL_snoc _ _ _)]at hK
     (try go_wp2)
     go_roundw
     case rel=>exact⟨mj+1,p28,n28,c28,(by first|rfl|go_num),(by first|rfl|go_num),(by omega),hid (fun e=>absurd (congrArg List.length e) (by rw[entL_len];simp)),(hK.subl (sC2 (sC2 (List.Sublist.refl _))))⟩
     case measure=>simp[intOf]<;>omega
    have q_b3:=ylt hb3;go_upto_region 10 with(fail);refine wp_region_S _ [0,1,0,0,2,3,5,0,4] hK ?_ (sC2 (sC2 sZ2));clear hK;refine e0 ?_;refine eL m1 ?_
    iterate 2 refine e0 ?_
    refine eC (fun w k=>entry_any w (hh0.below k.old) k1 hl0 hl2 hraw (by omega)) (fun x30=>?_);obtain⟨⟨p31,l31,c31⟩,⟨q31,u31,d31⟩⟩:=x30;dsimp only;refine eA (.cells #[.bool (isN (((entE raw k1:Int):Rat))),.slice p31 l31 c31,.slice q31 u31 d31] 34) (fun R32=>?_);refine eAppK 2 refK_hd rfl 2 h_e.out rfl infoR (fun w k=>k.one1 (K:=refK) (x:=((entE raw k1:Int):Rat)) m0 ⟨_,_,_,rfl,k.rq m1⟩) (by rw[entL_len];simp;omega) (fun x33=>?_) (hs:=fun _=>(sC2 (sC2 (sC2 (sC2 sZ2)))));obtain⟨p33,n33,c33⟩:=x33;dsimp only;refine e0 ?_;refine eP 3 0 [.slice p33 n33 c33] ?_ (hs:=(sC2 (sC2 (sC2 (sC2 sZ2))))) (hq:=.inr ⟨rfl,rfl,rfl,trivial⟩);refine sxEnd (fun W34 hK=>?_);rw[show(entL raw 0 k1)++[((entE raw k1:Int):Rat)]=entL raw 0 (k1+1)from(entL_snoc0 _ _)]at hK
    (try go_wp2)
    go_roundw
    case rel=>exact⟨k1+1,p33,n33,c33,(by first|rfl|go_num),(by omega),hid (fun e=>absurd (congrArg List.length e) (by rw[entL_len];simp)),(hK.subl (sC2 (sC2 (List.Sublist.refl _))))⟩
    case measure=>simp[intOf]<;>omega
   go_wp2
   try go_ret
   show Q0 (.returned (.bool true)) _
   exact(qo hQ0 ⟨rfl,hK.old⟩)
  have q_b1:=ylt hb1
  iterate 3 refine eN ?_
  refine e0 ?_;refine sxEnd (fun W35 hK=>?_);go_wp2
  try go_ret
  show Q0 (.returned (.bool true)) _
  exact(qo hQ0 ⟨rfl,hK.old⟩)
end Go.Proofs.YtjhaedfpigebdaaGreatDoor
