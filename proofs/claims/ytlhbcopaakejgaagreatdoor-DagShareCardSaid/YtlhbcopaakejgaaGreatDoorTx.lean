/- What the walks of rational numbers need besides: facts that outlive a store, shapes, lengths. -/

import Derived.Test.YtlhbcopaakejgaaGreatDoorRatA
import Derived.Test.YtlhbcopaakejgaaGreatDoorTxG
namespace Go.Proofs.YtlhbcopaakejgaaGreatDoor
open Go.RowKit
theorem nat_spare{R:Nat}{w:World}{v:Value}{n:Nat}(h:NatV w v n)(hR:NoHd [0] R w):Spares R w (fun w=>NatV w v n):=fun w1 hs hf w2 hb=>by
  refine NatV.below (W:=w1) (h.imp id fun⟨h0,g,c,e,t,hc⟩=>⟨h0,g,c,e,⟨Nat.lt_of_lt_of_le t.lt hs,fun k hk=>?_⟩,hc⟩) hb
  have hne:g≠R:=fun e=>by
    subst e;exact absurd (hR _ (t.at0 0 (by omega))) (by simp[rkV])
  rw[←t.at0 k hk];exact World.cell?_of_block (w:=w) (hf g hne t.lt)
theorem rat_spare{R:Nat}{w:World}{v:Value}{x:Rat}(h:RatV w v x)(hR:NoHd [0] R w):Spares R w (fun w=>RatV w v x):=fun w1 hs hf w2 hb=>by
  obtain⟨p,l,c,q,m,d,rfl,h1,h2⟩:=h;exact⟨p,l,c,q,m,d,rfl,nat_spare h1 hR w1 hs hf w2 hb,nat_spare h2 hR w1 hs hf w2 hb⟩
theorem GV.apart{W W':World}{v:Value}{xs:List Nat}{R:Nat}(h:GV W v xs)(hR:NoHd [1] R W)(hsz:W.heap.size≤W'.heap.size)(hE:∀g,g≠R→g<W.heap.size→W'.heap[g]?=W.heap[g]?):GV W' v xs:=by
  rcases h with h|⟨g,c,e,hd,hc⟩
  · exact .inl h
  · by_cases hx:xs=[]
    · subst hx
      exact .inl ⟨rfl,_,_,e⟩
    · have hpos:0<xs.length:=List.length_pos_iff.2 hx
      have hne:g≠R:=fun e=>by
        subst e;exact absurd (hR _ (hd.at0 0 hpos)) (by simp[iCell,rkV])
      refine .inr ⟨g,c,e,⟨Nat.lt_of_lt_of_le hd.lt hsz,fun k hk=>?_⟩,hc⟩;rw[←hd.at0 k hk];exact World.cell?_of_block (w:=W) (hE g hne hd.lt)
theorem ref_spare{R:Nat}{w:World}{v:Value}{n:Nat}(h:RefV w v n)(hR:NoHd [1] R w):Spares R w (fun w=>RefV w v n):=fun _ hs hf _ hb=>
  RefV.below (GV.apart h hR hs hf) hb
theorem refr_spare{R:Nat}{w:World}{v:Value}{x:Rat}(h:RefR w v x)(hR:NoHd [1] R w):Spares R w (fun w=>RefR w v x):=fun w1 hs hf w2 hb=>by
  obtain⟨nv,dv,rfl,h1,h2⟩:=h;exact⟨nv,dv,rfl,ref_spare h1 hR w1 hs hf w2 hb,ref_spare h2 hR w1 hs hf w2 hb⟩
section
variable {R R' base o:Nat}{cs:List Value}{w:World}{v:Value}{n:Nat}{x:Rat}{obj:Obj}
end
theorem RefV.sl{W:World}{v:Value}{n:Nat}(h:RefV W v n):∃p l c,v=.slice p l c:=by
  rcases h with⟨_,p,c,e⟩|⟨g,c,e,_⟩
  · exact⟨_,_,_,e⟩
  · exact⟨_,_,_,e⟩
theorem RefV.slr{W:World}{v:Value}{n:Nat}(h:RefV W v n):∃p c,v=.slice p (digs B6 n).length c:=by
  rcases h with⟨h0,p,c,e⟩|⟨g,c,e,_⟩
  · exact⟨p,c,by rw[h0];exact e⟩
  · exact⟨_,_,e⟩
def numQ(x:Rat):Nat:=x.num.natAbs
theorem RefR.slr{W:World}{v:Value}{x:Rat}(h:RefR W v x):∃p c q d,v=.agg #[.bool (isN x),.slice p (digs B6 (numQ x)).length c,.slice q (digs B6 (den0 x)).length d]∧RefV W (.slice p (digs B6 (numQ x)).length c) (numQ x)∧RefV W (.slice q (digs B6 (den0 x)).length d) (den0 x):=by
  obtain⟨nv,dv,rfl,h1,h2⟩:=h;obtain⟨p,c,rfl⟩:=h1.slr;obtain⟨q,d,rfl⟩:=h2.slr;exact⟨p,c,q,d,rfl,h1,h2⟩
theorem RefR.zero(W:World):RefR W (.agg #[.bool false,.slice none 0 0,.slice none 0 0]) 0:=⟨_,_,rfl,RefV.zero W,RefV.zero W⟩
theorem len6_zero{n:Nat}(h:(((digs B6 n).length:Int)==0)=true):n=0:=by
  have:digs B6 n=[]:=List.eq_nil_of_length_eq_zero (by simpa using h);rw[←val_digs b6_2 n,this];rfl
theorem len6_pos{n:Nat}(h:(((digs B6 n).length:Int)==0)=false):n≠0:=fun e=>by
  subst e;rw[digs_zero]at h
  cases h
theorem digs6_one{n:Nat}(h:(((digs B6 n).length:Int)==1)=true):digs B6 n=[n]:=by
  have hl:(digs B6 n).length=1:=by
    have:((digs B6 n).length:Int)=1:=by simpa using h
    omega
  obtain⟨x,hx⟩:∃x,digs B6 n=[x]:=List.length_eq_one_iff.1 hl;have e:=val_digs b6_2 n;rw[hx]at e;simp[val]at e;rw[hx,e]
theorem RefV.one{W:World}{p:Option Addr}{n c:Nat}(h:RefV W (.slice p (digs B6 n).length c) n)(h1:(((digs B6 n).length:Int)==1)=true):∃g,p=some ⟨g,0,none⟩:=by
  rcases h with⟨h0,_⟩|⟨g,_,e,_⟩
  · rw[digs6_one h1]at h0;cases h0
  · injection e with e1
    exact⟨g,e1⟩
theorem RefV.cell1{W:World}{g n c:Nat}(h:RefV W (.slice (some ⟨g,0,none⟩) (digs B6 n).length c) n)(h1:(((digs B6 n).length:Int)==1)=true):W.cell? ⟨g,0,none⟩=some (.int .i64 (n:Int)):=by
  have hx:=digs6_one h1
  rcases h with⟨h0,_⟩|⟨g',_,e,hd,_⟩
  · rw[hx]at h0;cases h0
  · injection e with e1
    injection e1 with e1
    injection e1 with e1
    have h2:=hd.at0 0 (by rw[hx];simp);rw[e1,h2];simp[hx,iCell]
theorem Lm.len{k n:Nat}(h:Lm k n):(digs B32 n).length≤k:=digs_len_le b32_2 _ _ h
theorem Lm.len6{k n:Nat}(h:Lm k n):(digs B6 n).length≤2*k:=digs6_len h
theorem dlen_of_le{n m:Nat}(h:n≤m){k:Nat}(hk:(digs B32 m).length≤k):(digs B32 n).length≤k:=Nat.le_trans (digs_mono h) hk
theorem dlen_gcd(n:Nat){d k:Nat}(hd:d≠0)(h:(digs B32 d).length≤k):(digs B32 (Nat.gcd n d)).length≤k:=dlen_of_le (Nat.le_of_dvd (Nat.pos_of_ne_zero hd) (Nat.gcd_dvd_right n d)) h
theorem LmQ.d0{k:Nat}{x:Rat}(h:LmQ k x):Lm k (den0 x):=h.d.le (by unfold den0;split<;>omega)
end Go.Proofs.YtlhbcopaakejgaaGreatDoor
