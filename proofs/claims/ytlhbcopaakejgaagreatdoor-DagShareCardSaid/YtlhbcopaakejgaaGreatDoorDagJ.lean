/- Distances are small; next arcs as the program gathers them. No program in sight. -/

import Derived.Test.YtlhbcopaakejgaaGreatDoorDagL
namespace Go.Proofs.YtlhbcopaakejgaaGreatDoor
section
variable {ar:Nat→Option ArcD}{A n r C:Nat}{f:Nat→Int}
def nearN(f:Nat→Int)(n:Nat)(v:Int):Nat:=((List.range n).filter fun z=>decide (0≤f z∧f z<v)).length
theorem near_le(f:Nat→Int)(n:Nat)(v:Int):nearN f n v≤n:=by unfold nearN;exact Nat.le_trans (List.length_filter_le _ _) (by simp)
theorem near_lt{v u:Int}{y:Nat}(hy:y<n)(h0:0≤f y)(h1:v≤f y)(h2:f y<u):nearN f n v+1≤nearN f n u:=by
  unfold nearN
  have hnd:(y::(List.range n).filter fun z=>decide (0≤f z∧f z<v)).Nodup:=by
    refine List.nodup_cons.2 ⟨fun h=>?_,(List.nodup_range (n:=n)).filter _⟩;have:=(List.mem_filter.1 h).2;simp at this;omega
  have:=nd_len hnd (l2:=(List.range n).filter fun z=>decide (0≤f z∧f z<u)) fun x hx=>by
    rcases List.mem_cons.1 hx with rfl|hx
    · exact List.mem_filter.2 ⟨List.mem_range.2 hy,by simp;omega⟩
    · obtain⟨h3,h4⟩:=List.mem_filter.1 hx
      refine List.mem_filter.2 ⟨h3,?_⟩;simp at h4⊢;omega
  simpa using this
theorem Bel.small(ha:ArOk ar A n C)(h:Bel ar A n r f):∀(k x:Nat),x<n→f x=(k:Int)→f x≤((nearN f n (f x)*C:Nat):Int):=by
  intro k
  induction k using Nat.strongRecOn with
  | ind k ih=>
    intro x hx hk
    by_cases hr:x=r
    · subst hr;rw[h.root];omega
    · obtain⟨a,e,h1,h2,h3,h4,h5⟩:=h.back x hx hr (by omega)
      obtain⟨_,hy,hc,hC⟩:=ha.hx a e h1 h2;obtain⟨j,hj⟩:∃j:Nat,f e.y=(j:Int):=Int.eq_ofNat_of_zero_le h4;have i1:=ih j (by omega) e.y hy hj;have i2:nearN f n (f e.y)+1≤nearN f n (f x):=near_lt hy h4 (Int.le_refl _) (by omega);have i3:(nearN f n (f e.y)+1)*C≤nearN f n (f x)*C:=Nat.mul_le_mul_right _ i2;rw[Nat.add_mul,Nat.one_mul]at i3;omega
end
theorem IsDst.small{t:TopD}{down:List Bool}{d:Nat}{l:List Int}(ht:topOk t=true)(h:IsDst t down d l)(x:Nat):atD l x≤4300000:=by
  by_cases hx:0≤atD l x
  · obtain⟨k,hk⟩:=Int.eq_ofNat_of_zero_le hx
    have h1:=h.2.small (arTo_ok ht) k x (h.out hx) hk;have h2:=near_le (atD l) (nN t) (atD l x)
    have h3:nN t≤64:=by
      unfold topOk at ht;rw[Bool.and_eq_true]at ht;have q:=of_decide_eq_true ht.1;unfold nN;omega
    have h4:nearN (atD l) (nN t) (atD l x)*65535≤64*65535:=Nat.mul_le_mul_right _ (by omega);omega
  · omega
def selL(P:Nat→Bool)(l:List Nat)(j:Nat):List Nat:=(l.take j).filter P
theorem selL_yes{P:Nat→Bool}{l:List Nat}{j a:Nat}(h:l[j]?=some a)(hp:P a=true):selL P l (j+1)=selL P l j++[a]:=by
  unfold selL;rw[List.take_add_one,h,Option.toList_some,List.filter_append];simp[hp]
theorem selL_no{P:Nat→Bool}{l:List Nat}{j a:Nat}(h:l[j]?=some a)(hp:P a=false):selL P l (j+1)=selL P l j:=by
  unfold selL;rw[List.take_add_one,h,Option.toList_some,List.filter_append];simp[hp]
theorem selL_all{P:Nat→Bool}{l:List Nat}{j:Nat}(h:l.length≤j):selL P l j=l.filter P:=by unfold selL;rw[List.take_of_length_le h]
theorem selL_len(P:Nat→Bool)(l:List Nat)(j:Nat):(selL P l j).length≤l.length:=by
  unfold selL;refine Nat.le_trans (List.length_filter_le _ _) ?_;rw[List.length_take];omega
theorem mem_out{t:TopD}{n a:Nat}:a∈outD t n↔a<arcsD t∧tN t a=n:=by unfold outD;rw[List.mem_filter,List.mem_range,decide_eq_true_eq]
theorem out_len(t:TopD)(n:Nat):(outD t n).length≤arcsD t:=by unfold outD;exact Nat.le_trans (List.length_filter_le _ _) (by simp)
end Go.Proofs.YtlhbcopaakejgaaGreatDoor
