/- Rational numbers of the reference. -/

import Derived.Test.YtlhbcopaakejgaaGreatDoorNrE
namespace Go.Proofs.YtlhbcopaakejgaaGreatDoor
open Go.RowKit
open Go.Lib (decDigits)
theorem d6_of{k n:Nat}(h:Lm k n)(hk:k≤25000):(digs B6 n).length≤50000:=Nat.le_trans h.len6 (by omega)
theorem int_len6{z:Int}(h0: -9223372036854775808≤z)(h1:z≤9223372036854775807):(digs B6 z.natAbs).length≤50000:=d6_of (k:=2) (by
  have:B32^2=18446744073709551616:=by decide
  show _<_
  omega) (by decide)
theorem Lm.one:Lm 1 1:=by show _<_;decide
theorem den_t{x:Rat}(h:(((digs B6 (den0 x)).length:Int)==0)=true):1=x.den:=((den0_zero x).1 (len6_zero h)).symm
theorem den_f{x:Rat}(h:(((digs B6 (den0 x)).length:Int)==0)=false):den0 x=x.den:=by
  have:=len6_pos h;have h2:=one0_den0 x;unfold one0 at h2
  rwa [if_neg this]at h2
theorem digs6_1:digs B6 1=[1]:=by
  rw[digs_pos b6_2 (by decide),Nat.mod_eq_of_lt (by decide),Nat.div_eq_of_lt (by decide),digs_zero]
theorem beq1_t{a:Nat}(h:((a:Int)==1)=true):a=1:=by
  have:(a:Int)=1:=by simpa using h
  omega
theorem beq1_f{a:Nat}(h:((a:Int)==1)=false):a≠1:=fun e=>by subst e;cases h
theorem gcd6_len{n d:Nat}(h1:(digs B6 n).length≤50000)(h2:(digs B6 d).length≤50000):(digs B6 (Nat.gcd n d)).length≤50000:=by
  rcases Nat.eq_zero_or_pos d with h|h
  · rw[h,Nat.gcd_zero_right];exact h1
  · exact digs6_mono (Nat.le_of_dvd h (Nat.gcd_dvd_right n d)) h2
theorem make_b0(s:Bool){n d:Nat}(_hd:d≠0)(h:n/Nat.gcd n d=0):false=(s&&decide (n≠0)):=by
  have:n=0:=by
    rcases Nat.eq_zero_or_pos n with h1|h1
    · exact h1
    · have:=Nat.div_pos (Nat.le_of_dvd h1 (Nat.gcd_dvd_left n d)) (Nat.gcd_pos_of_pos_left d h1)
      omega
  simp[this]
theorem make_b1(s:Bool){n g:Nat}(h:n/g≠0):s=(s&&decide (n≠0)):=by
  have:n≠0:=fun e=>h (by rw[e];simp)
  simp[this]
theorem ofS_00(s:Bool)(n:Nat):ofS s n 0=0:=ofS_d0 s n
theorem radd_t{x y:Rat}(h:(isN x==isN y)=true):ofS (isN x) (x.num.natAbs*y.den+y.num.natAbs*x.den) (x.den*y.den)=x+y:=add_of (by
  have e:isN x=isN y:=by simpa using h
  rw[←e];exact(sgn_add _ _ _).symm)
theorem cmpN_ge{n m:Nat}{z:Int}(hz:cmpN n m=z)(h:decide (0≤z)=true):m≤n:=by
  have:0≤z:=by simpa using h
  rw[←hz]at this;unfold cmpN at this
  split at this<;>omega
theorem cmpN_lt'{n m:Nat}{z:Int}(hz:cmpN n m=z)(h:decide (0≤z)=false):n<m:=by
  have:¬0≤z:=by simpa using h
  rw[←hz]at this;unfold cmpN at this
  split at this
  · assumption
  · split at this<;>omega
theorem not_of_beq{a b:Bool}(h:(a==b)=false):b= !a:=by revert h;cases a<;>cases b<;>decide
theorem radd_ft{x y:Rat}{z:Int}(h:(isN x==isN y)=false)(hz:cmpN (x.num.natAbs*y.den) (y.num.natAbs*x.den)=z)(h2:decide (0≤z)=true):ofS (isN x) (x.num.natAbs*y.den-y.num.natAbs*x.den) (x.den*y.den)=x+y:=add_of (by
  rw[not_of_beq h];exact(sgn_sub _ (cmpN_ge hz h2)).symm)
theorem radd_ff{x y:Rat}{z:Int}(h:(isN x==isN y)=false)(hz:cmpN (x.num.natAbs*y.den) (y.num.natAbs*x.den)=z)(h2:decide (0≤z)=false):ofS (isN y) (y.num.natAbs*x.den-x.num.natAbs*y.den) (x.den*y.den)=x+y:=add_of (by
  have e:isN x= !isN y:=by rw[not_of_beq h];simp
  rw[e,Int.add_comm];exact(sgn_sub _ (Nat.le_of_lt (cmpN_lt' hz h2))).symm)
theorem rdiv_a(x y:Rat):ofS (isN x !=isN y) (x.num.natAbs*y.den) (x.den*y.num.natAbs)=x/y:=by
  by_cases h:y=0
  · rw[h,div_zero',show(0:Rat).num.natAbs=0 from rfl,Nat.mul_zero,ofS_d0]
  · rw[Nat.mul_comm x.den];exact div_of x h
theorem rdiv_e{x y:Rat}{z:Int}(h:(if x.den*y.num.natAbs=0 then 10 else 0)=z):z=if y=0 then 10 else 0:=by
  rw[←h]
  by_cases hy:y=0
  · rw[if_pos hy,if_pos (by rw[(natAbs_zero y).2 hy,Nat.mul_zero])]
  · rw[if_neg hy,if_neg (Nat.mul_ne_zero x.den_nz fun e=>hy ((natAbs_zero y).1 e))]
theorem len6_lt{n:Nat}{b:Bool}(h:decide (0<((digs B6 n).length:Int))=b):(n=0↔b=false):=by
  rw[←h];constructor
  · intro e;rw[e,digs_zero];rfl
  · intro e
    have:¬0<((digs B6 n).length:Int):=by simpa using e
    exact(digs_eq_nil b6_2).1 (List.eq_nil_of_length_eq_zero (by omega))
set_option maxRecDepth 100000 in
theorem rone_q(v0:Value)(x:Rat)(w:World)(h0:RefR w v0 x):
    Calls Tryz.prog 62 #[v0] w fun e w'=> ∃y0,e=.returned y0∧RefV w' y0 (x.den)∧Below w.heap.size w w':=by
  have h0_0:=h0;obtain⟨p_h0,c_h0,q_h0,d_h0,rfl,h0_1,h0_2⟩:=h0.slr;have hK:=SS.start w;refine Calls.hide (fun Q0 hQ0=>?_);go_enter Tryz.func62,Tryz.ntmps62;go_upto_region 0 with(fail);refine wp_region_T [3,0] hK ?_;clear hK;refine eA (.cells #[.bool (isN x),.slice p_h0 (digs B6 (numQ x)).length c_h0,.slice q_h0 (digs B6 (den0 x)).length d_h0] 46) (fun R1=>?_);refine e0 ?_;refine sxEnd (fun W2 hK=>?_);go_upto_region 1 with(fail);refine wp_region_T [0,1,0,0] hK ?_;clear hK;refine e0 ?_;refine eL m0 ?_;refine e0 ?_;refine eB ((((digs B6 (den0 x)).length:Int))==0) (fun b1 hb1=>?_);refine sxEnd (fun W3 hK=>?_)
  cases b1
  · --
   go_upto_region 3 with(fail);refine wp_region_T [0,1,0] hK ?_;clear hK;refine e0 ?_;refine eL m0 ?_;refine e0 ?_;refine sxEnd (fun W4 hK=>?_);go_wp2
   try go_ret
   show Q0 (.returned (.slice q_h0 (digs B6 (den0 x)).length d_h0)) _
   exact(by obtain rfl:=hQ0.out;exact⟨_,rfl,((congrArg (RefV _ _) (den_f hb1.out)).mp (h0_2.below hK.old)),hK.old⟩)
  · --
   go_upto_region 2 with(fail);refine wp_region_T [2,0] hK ?_;clear hK;refine eC (fun w k=>ref_V (rof_any 1 w (by omega))) (fun x6=>?_);obtain⟨p5,c5⟩:=x6;dsimp only;refine e0 ?_;refine sxEnd (fun W7 hK=>?_);go_wp2
   try go_ret
   show Q0 (.returned (.slice p5 (digs B6 1).length c5)) _
   exact(by obtain rfl:=hQ0.out;exact⟨_,rfl,((congrArg (RefV _ _) (den_t hb1.out)).mp (hK.vf m0)),hK.old⟩)
theorem RefV.oneC{W:World}{p:Option Addr}{n c:Nat}(h:RefV W (.slice p (digs B6 n).length c) n):RowKit.Hid ((((digs B6 n).length:Int)==1)=false)∨ ∃g,p=some ⟨g,0,none⟩∧RowKit.Hid ((((digs B6 n).length:Int)==1)=true):=by
  cases e:(((digs B6 n).length:Int)==1)with
  |false=>exact .inl (hid rfl)
  |true=>obtain⟨g,rfl⟩:=h.one e;exact .inr ⟨g,rfl,hid rfl⟩
theorem one6{n:Nat}(h:(((digs B6 n).length:Int)==1)=false):n≠1:=fun e=>by subst e;rw[digs6_1]at h;cases h
theorem vF_eq{V w:World}{l:List Ft}{v:Value}{n m:Nat}(h:SS V (vF v n::l) w)(e:n=m):SS V (vF v m::l) w:=e▸h
set_option maxRecDepth 100000 in
theorem rmake_q(v1:Value)(v2:Value)(s:Bool)(n:Nat)(d:Nat)(w:World)(h1:RefV w v1 n)(h2:RefV w v2 d)(l1:(digs B6 n).length≤50000)(l2:(digs B6 d).length≤50000):
    Calls Tryz.prog 60 #[.bool s,v1,v2] w fun e w'=> ∃y0,e=.returned (.tuple #[y0,.int .i64 (if d=0 then 10 else 0)])∧RefR w' y0 (ofS s n d)∧Below w.heap.size w w':=by
  obtain⟨p_h1,c_h1,rfl⟩:=h1.slr;obtain⟨p_h2,c_h2,rfl⟩:=h2.slr;have hK:=SS.start w;have l3:(digs B6 (Nat.gcd n d)).length≤50000:=gcd6_len l1 l2;refine Calls.hide (fun Q0 hQ0=>?_);go_enter Tryz.func60,Tryz.ntmps60;go_upto_region 0 with(fail);refine wp_region_T [3,0] hK ?_;clear hK;refine eA (.cells #[.bool false,.slice none 0 0,.slice none 0 0] 46) (fun R1=>?_);refine e0 ?_;refine sxEnd (fun W2 hK=>?_);go_upto_region 1 with(fail);refine wp_region_T [0,0,0] hK ?_;clear hK
  iterate 2 refine e0 ?_
  refine eB ((((digs B6 d).length:Int))==0) (fun b1 hb1=>?_);refine sxEnd (fun W3 hK=>?_)
  cases b1
  · --
   have hd0:d≠0:=len6_pos hb1.out;go_upto_region 3 with(fail);refine wp_region_T [0,0,2,0] hK ?_;clear hK
   iterate 2 refine e0 ?_
   refine eC (fun w k=>ref_V (rgcd_any _ _ _ _ w (h1.below k.old) (h2.below k.old) (by omega) (by omega))) (fun x5=>?_);obtain⟨p4,c4⟩:=x5;dsimp only;refine e0 ?_;refine sxEnd (fun W6 hK=>?_);go_upto_region 4 with(fail);refine wp_region_T [0,0,2,0,0,0,0,0,0,0] hK ?_;clear hK
   iterate 2 refine e0 ?_
   refine eC (fun w k=>ref2_V (rdm_any _ _ _ _ w (h1.below k.old) (k.vf m0) (by omega) (by omega))) (fun x9=>?_);obtain⟨⟨p7,c7⟩,⟨p8,c8⟩⟩:=x9;dsimp only
   iterate 7 refine e0 ?_
   refine sxEnd (fun W10 hK=>?_);go_upto_region 5 with(fail);refine wp_region_T [0,0,2,0,0,0,0,0,0,0] hK ?_;clear hK
   iterate 2 refine e0 ?_
   refine eC (fun w k=>ref2_V (rdm_any _ _ _ _ w (h2.below k.old) (k.vf m2) (by omega) (by omega))) (fun x13=>?_);obtain⟨⟨p11,c11⟩,⟨p12,c12⟩⟩:=x13;dsimp only
   iterate 7 refine e0 ?_
   refine sxEnd (fun W14 hK=>?_)
   rcases(hK.vf m0).oneC with hbl|⟨g1,rfl,hbl⟩
   · --
    go_upto_region 6 with(fail);refine wp_region_T [0,0,0,0,0,0,0,0,0] hK ?_;clear hK
    iterate 2 refine e0 ?_
    refine eV (.bool false) (fun w'=>by go_simp;(try go_bits);exact⟨congrArg Value.bool hbl.out,rfl⟩) ?_;refine e0 ?_
    iterate 4 refine eN ?_
    refine e0 ?_;refine sxEnd (fun W15 hK=>?_);go_upto_if 44 with(fail);go_cut [12]from 9999 to 9999 (fun s12 wl=> ∃(dp:Option Addr) (dl:Nat) (dc:Nat),s12=.slice dp dl dc∧SS w ([vF (.slice dp dl dc) (if d/Nat.gcd n d=1 then 0 else d/Nat.gcd n d),vF (.slice p12 (digs B6 (rem0 d (Nat.gcd n d))).length c12) (rem0 d (Nat.gcd n d)),vF (.slice p7 (digs B6 (n/(Nat.gcd n d))).length c7) (n/(Nat.gcd n d)),vF (.slice p8 (digs B6 (rem0 n (Nat.gcd n d))).length c8) (rem0 n (Nat.gcd n d)),vF (.slice p4 (digs B6 (Nat.gcd n d)).length c4) (Nat.gcd n d),bx R1 (.cells #[.bool false,.slice none 0 0,.slice none 0 0] 46)]) wl)
    case first=>
     replace hK:=vF_eq (m:=(if d/Nat.gcd n d=1 then 0 else d/Nat.gcd n d)) hK (if_neg (one6 hbl.out)).symm
     (try go_wp2)
     go_meet
     case rel=>exact⟨p11,(digs B6 (d/(Nat.gcd n d))).length,c11,(by first|rfl|go_num),hK⟩
    case rest=>
     clear hK;obtain⟨dp,dl,dc,rfl,hK⟩:=hcut;generalize wc=W16 at hK⊢;go_upto_region 8 with(fail);refine wp_region_T [0,0,0] hK ?_;clear hK
     iterate 2 refine e0 ?_
     refine eB ((((digs B6 (n/(Nat.gcd n d))).length:Int))==0) (fun b2 hb2=>?_);refine sxEnd (fun W17 hK=>?_);go_upto_if 47 with(fail);go_cut [9,0]from 9999 to 9999 (fun s9 s0 wl=> ∃(np:Option Addr) (nl:Nat) (nc:Nat),s9=.slice np nl nc∧s0=.bool (s&&decide (n≠0))∧SS w ([vF (.slice np nl nc) (n/Nat.gcd n d),vF (.slice dp dl dc) (if d/Nat.gcd n d=1 then 0 else d/Nat.gcd n d),vF (.slice p12 (digs B6 (rem0 d (Nat.gcd n d))).length c12) (rem0 d (Nat.gcd n d)),vF (.slice p8 (digs B6 (rem0 n (Nat.gcd n d))).length c8) (rem0 n (Nat.gcd n d)),vF (.slice p4 (digs B6 (Nat.gcd n d)).length c4) (Nat.gcd n d),bx R1 (.cells #[.bool false,.slice none 0 0,.slice none 0 0] 46)]) wl)
     case first=>
      cases b2
      · --
       (try go_wp2)
       go_meet
       case rel=>exact⟨p7,(digs B6 (n/(Nat.gcd n d))).length,c7,(by first|rfl|go_num),(congrArg Value.bool (make_b1 s (len6_pos hb2.out))),hK.up5.up5.up5.up4.up4.up5⟩
      · --
       have hz9:=len6_zero hb2.out;replace hK:=hK.fact (vF (.slice none 0 0) 0) (RefV.zero _);replace hK:=vF_eq (m:=n/Nat.gcd n d) hK hz9.symm
       (try go_wp2)
       go_meet
       case rel=>exact⟨none,0,0,(by first|rfl|go_num),(congrArg Value.bool (make_b0 s hd0 hz9)),(hK.subl (sK2 (sK2 (sK2 (sC2 (List.Sublist.refl _))))))⟩
     case rest=>
      clear hK;obtain⟨np,nl,nc,rfl,rfl,hK⟩:=hcut;generalize wc=W18 at hK⊢;go_upto_region 10 with(fail);refine wp_region_T [0,0,0,0,4,0] hK ?_;clear hK
      iterate 4 refine e0 ?_
      refine eP 5 0 [.bool (s&&decide (n≠0)),.slice np nl nc,.slice dp dl dc] ?_;refine e0 ?_;refine sxEnd (fun W19 hK=>?_);have⟨c90,c91,c92⟩:=(hK.box m5).c3;go_wp2;exact bodyPost_ret (v:=.tuple #[.agg #[.bool (s&&decide (n≠0)),.slice np nl nc,.slice dp dl dc],.int .i64 0]) (by simp[results,Tryz.results60,go_sem,c90,c91,c92]) rfl (by obtain rfl:=hQ0.out;exact⟨_,(by rw[if_neg hd0]),(RefR.make hd0 rfl rfl rfl (hK.vf m0) (hK.vf m1)),hK.old⟩)
   · --
    go_upto_region 6 with(fail);refine wp_region_T [0,0,0,0,0,0,1,0,0] hK ?_;clear hK
    iterate 2 refine e0 ?_
    refine eV (.bool true) (fun w'=>by go_simp;(try go_bits);exact⟨congrArg Value.bool hbl.out,rfl⟩) ?_
    iterate 2 refine e0 ?_
    refine eV (.pointer (some ⟨g1,0,none⟩)) (fun w'=>by go_simp;(try go_bits);(have hq:=digs6_one hbl.out);rw[hq];exact⟨rfl,rfl⟩) ?_;refine eR (fun w k=>RefV.cell1 (k.vf m0) hbl.out) ?_;refine eB ((((d/Nat.gcd n d:Nat):Int))==1) (fun b2 hb2=>?_);refine e0 ?_;refine sxEnd (fun W20 hK=>?_);go_upto_if 44 with(fail);go_cut [12]from 9999 to 9999 (fun s12 wl=> ∃(dp:Option Addr) (dl:Nat) (dc:Nat),s12=.slice dp dl dc∧SS w ([vF (.slice dp dl dc) (if d/Nat.gcd n d=1 then 0 else d/Nat.gcd n d),vF (.slice p12 (digs B6 (rem0 d (Nat.gcd n d))).length c12) (rem0 d (Nat.gcd n d)),vF (.slice p7 (digs B6 (n/(Nat.gcd n d))).length c7) (n/(Nat.gcd n d)),vF (.slice p8 (digs B6 (rem0 n (Nat.gcd n d))).length c8) (rem0 n (Nat.gcd n d)),vF (.slice p4 (digs B6 (Nat.gcd n d)).length c4) (Nat.gcd n d),bx R1 (.cells #[.bool false,.slice none 0 0,.slice none 0 0] 46)]) wl)
    case first=>
     cases b2
     · --
      replace hK:=vF_eq (m:=(if d/Nat.gcd n d=1 then 0 else d/Nat.gcd n d)) hK (if_neg (beq1_f hb2.out)).symm
      (try go_wp2)
      go_meet
      case rel=>exact⟨(some ⟨g1,0,none⟩),(digs B6 (d/(Nat.gcd n d))).length,c11,(by first|rfl|go_num),hK⟩
     · --
      replace hK:=hK.fact (vF (.slice none 0 0) 0) (RefV.zero _);replace hK:=vF_eq (m:=(if d/Nat.gcd n d=1 then 0 else d/Nat.gcd n d)) hK (if_pos (beq1_t hb2.out)).symm
      (try go_wp2)
      go_meet
      case rel=>exact⟨none,0,0,(by first|rfl|go_num),(hK.subl (sK2 (sC2 (List.Sublist.refl _))))⟩
    case rest=>
     clear hK;obtain⟨dp,dl,dc,rfl,hK⟩:=hcut;generalize wc=W21 at hK⊢;go_upto_region 8 with(fail);refine wp_region_T [0,0,0] hK ?_;clear hK
     iterate 2 refine e0 ?_
     refine eB ((((digs B6 (n/(Nat.gcd n d))).length:Int))==0) (fun b3 hb3=>?_);refine sxEnd (fun W22 hK=>?_);go_upto_if 47 with(fail);go_cut [9,0]from 9999 to 9999 (fun s9 s0 wl=> ∃(np:Option Addr) (nl:Nat) (nc:Nat),s9=.slice np nl nc∧s0=.bool (s&&decide (n≠0))∧SS w ([vF (.slice np nl nc) (n/Nat.gcd n d),vF (.slice dp dl dc) (if d/Nat.gcd n d=1 then 0 else d/Nat.gcd n d),vF (.slice p12 (digs B6 (rem0 d (Nat.gcd n d))).length c12) (rem0 d (Nat.gcd n d)),vF (.slice p8 (digs B6 (rem0 n (Nat.gcd n d))).length c8) (rem0 n (Nat.gcd n d)),vF (.slice p4 (digs B6 (Nat.gcd n d)).length c4) (Nat.gcd n d),bx R1 (.cells #[.bool false,.slice none 0 0,.slice none 0 0] 46)]) wl)
     case first=>
      cases b3
      · --
       (try go_wp2)
       go_meet
       case rel=>exact⟨p7,(digs B6 (n/(Nat.gcd n d))).length,c7,(by first|rfl|go_num),(congrArg Value.bool (make_b1 s (len6_pos hb3.out))),hK.up5.up5.up5.up4.up4.up5⟩
      · --
       have hz9:=len6_zero hb3.out;replace hK:=hK.fact (vF (.slice none 0 0) 0) (RefV.zero _);replace hK:=vF_eq (m:=n/Nat.gcd n d) hK hz9.symm
       (try go_wp2)
       go_meet
       case rel=>exact⟨none,0,0,(by first|rfl|go_num),(congrArg Value.bool (make_b0 s hd0 hz9)),(hK.subl (sK2 (sK2 (sK2 (sC2 (List.Sublist.refl _))))))⟩
     case rest=>
      clear hK;obtain⟨np,nl,nc,rfl,rfl,hK⟩:=hcut;generalize wc=W23 at hK⊢;go_upto_region 10 with(fail);refine wp_region_T [0,0,0,0,4,0] hK ?_;clear hK
      iterate 4 refine e0 ?_
      refine eP 5 0 [.bool (s&&decide (n≠0)),.slice np nl nc,.slice dp dl dc] ?_;refine e0 ?_;refine sxEnd (fun W24 hK=>?_);have⟨c90,c91,c92⟩:=(hK.box m5).c3;go_wp2;exact bodyPost_ret (v:=.tuple #[.agg #[.bool (s&&decide (n≠0)),.slice np nl nc,.slice dp dl dc],.int .i64 0]) (by simp[results,Tryz.results60,go_sem,c90,c91,c92]) rfl (by obtain rfl:=hQ0.out;exact⟨_,(by rw[if_neg hd0]),(RefR.make hd0 rfl rfl rfl (hK.vf m0) (hK.vf m1)),hK.old⟩)
  · --
   go_upto_region 2 with(fail);refine wp_region_T [0,4,0] hK ?_;clear hK;refine e0 ?_;refine eP 0 0 [.bool false,.slice none 0 0,.slice none 0 0] ?_;refine e0 ?_;refine sxEnd (fun W25 hK=>?_);have⟨c90,c91,c92⟩:=(hK.box m0).c3;go_wp2;exact bodyPost_ret (v:=.tuple #[.agg #[.bool false,.slice none 0 0,.slice none 0 0],.int .i64 10]) (by simp[results,Tryz.results60,go_sem,c90,c91,c92]) rfl (by obtain rfl:=hQ0.out;exact⟨_,(by rw[if_pos (len6_zero hb1.out)]),(by rw[len6_zero hb1.out,ofS_00];exact RefR.zero _),hK.old⟩)
set_option maxRecDepth 100000 in
theorem rmade_q(v1:Value)(v2:Value)(s:Bool)(n:Nat)(d:Nat)(w:World)(h1:RefV w v1 n)(h2:RefV w v2 d)(l1:(digs B6 n).length≤50000)(l2:(digs B6 d).length≤50000):
    Calls Tryz.prog 64 #[.bool s,v1,v2] w fun e w'=> ∃y0,e=.returned y0∧RefR w' y0 (ofS s n d)∧Below w.heap.size w w':=by
  obtain⟨p_h1,c_h1,rfl⟩:=h1.slr;obtain⟨p_h2,c_h2,rfl⟩:=h2.slr;have hK:=SS.start w;refine Calls.hide (fun Q0 hQ0=>?_);go_enter Tryz.func64,Tryz.ntmps64;go_upto_region 0 with(fail);refine wp_region_T [3] hK ?_;clear hK;refine eA (.cells #[.bool false,.slice none 0 0,.slice none 0 0] 46) (fun R1=>?_);refine sxEnd (fun W2 hK=>?_);go_upto_region 1 with(fail);refine wp_region_T [0,0,0,2,0,0,0,3,4,0] hK ?_;clear hK
  iterate 3 refine e0 ?_
  obtain⟨z1,hz1⟩:∃z9:Int,RowKit.Hid ((if d=0 then 10 else 0)=z9):=⟨_,hid rfl⟩;refine eC (fun w k=>(by have q:=ref2_S (rmake_q _ _ s _ _ w (h1.below k.old) (h2.below k.old) (by omega) (by omega));rw[hz1.out]at q;exact q)) (fun x4=>?_);obtain⟨⟨p3,l3,c3⟩,⟨q3,u3,d3⟩⟩:=x4;dsimp only
  iterate 3 refine e0 ?_
  refine eA (.cells #[.bool false,.slice none 0 0,.slice none 0 0] 46) (fun R5=>?_);refine eP 0 0 [.bool (isN (ofS s n d)),.slice p3 l3 c3,.slice q3 u3 d3] ?_ (hq:=.inr ⟨rfl,rfl,trivial⟩);refine e0 ?_;refine sxEnd (fun W6 hK=>?_);go_upto_region 2 with(fail);refine wp_region_T [1,4] hK ?_;clear hK;refine eL m0 ?_;refine eP 2 0 [.bool (isN (ofS s n d)),.slice p3 l3 c3,.slice q3 u3 d3] ?_ (hq:=.inr ⟨rfl,rfl,trivial⟩);refine sxEnd (fun W7 hK=>?_);have⟨c90,c91,c92⟩:=(hK.box m2).c3;go_wp2;exact bodyPost_ret (v:=.agg #[.bool (isN (ofS s n d)),.slice p3 l3 c3,.slice q3 u3 d3]) (by simp[results,Tryz.results64,go_sem,c90,c91,c92]) rfl (by obtain rfl:=hQ0.out;exact⟨_,rfl,(hK.rq m1),hK.old⟩)
set_option maxRecDepth 100000 in
theorem rsize_q (n:Int)(w:World) (n0: -9223372036854775808≤n)(n1:n≤9223372036854775807):
    Calls Tryz.prog 92 #[.int .i64 n] w fun e w'=> ∃y0,e=.returned y0∧RefV w' y0 (n.natAbs)∧Below w.heap.size w w':=by
  have hK:=SS.start w;refine Calls.hide (fun Q0 hQ0=>?_);go_enter Tryz.func92,Tryz.ntmps92;go_upto_region 1 with(fail);refine wp_region_T [0,0] hK ?_;clear hK;refine e0 ?_;refine eB (decide (n<0)) (fun b1 hb1=>?_);refine sxEnd (fun W1 hK=>?_)
  cases b1
  · --
   have q_b1:0≤n:=Int.not_lt.1 (of_decide_eq_false hb1.out);go_upto_region 3 with(fail);refine wp_region_T [0,0,2,0] hK ?_;clear hK;refine e0 ?_;refine eV (.int .u64 (n.natAbs:Int)) (fun w'=>by go_simp;(try go_bits);exact⟨congrArg _ (by omega),rfl⟩) ?_;refine eC (fun w k=>ref_V (rof_any n.natAbs w (by omega))) (fun x3=>?_);obtain⟨p2,c2⟩:=x3;dsimp only;refine e0 ?_;refine sxEnd (fun W4 hK=>?_);go_wp2
   try go_ret
   show Q0 (.returned (.slice p2 (digs B6 n.natAbs).length c2)) _
   exact(by obtain rfl:=hQ0.out;exact⟨_,rfl,(hK.vf m0),hK.old⟩)
  · --
   have q_b1:n<0:=of_decide_eq_true hb1.out;go_upto_region 2 with(fail);refine wp_region_T [0,0,0,0,0,2,0] hK ?_;clear hK
   iterate 4 refine e0 ?_
   refine eV (.int .u64 (n.natAbs:Int)) (fun w'=>by go_simp;(try go_bits);exact⟨congrArg _ (by omega),rfl⟩) ?_;refine eC (fun w k=>ref_V (rof_any n.natAbs w (by omega))) (fun x6=>?_);obtain⟨p5,c5⟩:=x6;dsimp only;refine e0 ?_;refine sxEnd (fun W7 hK=>?_);go_wp2
   try go_ret
   show Q0 (.returned (.slice p5 (digs B6 n.natAbs).length c5)) _
   exact(by obtain rfl:=hQ0.out;exact⟨_,rfl,(hK.vf m0),hK.old⟩)
set_option maxRecDepth 100000 in
theorem rof_q (n:Int)(d:Int)(w:World) (n0: -9223372036854775808≤n)(n1:n≤9223372036854775807)(d0: -9223372036854775808≤d)(d1:d≤9223372036854775807):
    Calls Tryz.prog 56 #[.int .i64 n,.int .i64 d] w fun e w'=> ∃y0,e=.returned y0∧RefR w' y0 (((n:Int):Rat)/((d:Int):Rat))∧Below w.heap.size w w':=by
  have hK:=SS.start w;have l1:=int_len6 n0 n1;have l2:=int_len6 d0 d1;refine Calls.hide (fun Q0 hQ0=>?_);go_enter Tryz.func56,Tryz.ntmps56;go_upto_region 0 with(fail);refine wp_region_T [3] hK ?_;clear hK;refine eA (.cells #[.bool false,.slice none 0 0,.slice none 0 0] 46) (fun R1=>?_);refine sxEnd (fun W2 hK=>?_);go_upto_region 1 with(fail);refine wp_region_T [0,0,0,0,0,0,2,0,2,2,4] hK ?_;clear hK;refine e0 ?_;refine eB (decide (n<0)) (fun b1 hb1=>?_);refine e0 ?_;refine eB (decide (d<0)) (fun b2 hb2=>?_)
  iterate 2 refine e0 ?_
  refine eC (fun w k=>ref_V (rsize_q n w (by omega) (by omega))) (fun x4=>?_);obtain⟨p3,c3⟩:=x4;dsimp only;refine e0 ?_;refine eC (fun w k=>ref_V (rsize_q d w (by omega) (by omega))) (fun x6=>?_);obtain⟨p5,c5⟩:=x6;dsimp only;refine eC (fun w k=>ref_S (rmade_q _ _ (b1 !=b2) _ _ w (k.vf m1) (k.vf m0) (by omega) (by omega))) (fun x8=>?_);obtain⟨⟨p7,l7,c7⟩,⟨q7,u7,d7⟩⟩:=x8;dsimp only;refine eP 3 0 [.bool (isN (ofS (b1 !=b2) n.natAbs d.natAbs)),.slice p7 l7 c7,.slice q7 u7 d7] ?_ (hq:=.inr ⟨rfl,rfl,rfl,trivial⟩);refine sxEnd (fun W9 hK=>?_);have⟨c90,c91,c92⟩:=(hK.box m3).c3;go_wp2;exact bodyPost_ret (v:=.agg #[.bool (isN (ofS (b1 !=b2) n.natAbs d.natAbs)),.slice p7 l7 c7,.slice q7 u7 d7]) (by simp[results,Tryz.results56,go_sem,c90,c91,c92]) rfl (by obtain rfl:=hQ0.out;exact⟨_,rfl,((congrArg (RefR _ _) (by rw[←hb1.out, ←hb2.out];exact quo_ints n d)).mp (hK.rq m0)),hK.old⟩)
set_option maxRecDepth 100000 in
theorem rint_q (n:Int)(w:World) (n0: -9223372036854775808≤n)(n1:n≤9223372036854775807):
    Calls Tryz.prog 27 #[.int .i64 n] w fun e w'=> ∃y0,e=.returned y0∧RefR w' y0 (((n:Int):Rat))∧Below w.heap.size w w':=by
  have hK:=SS.start w;refine Calls.hide (fun Q0 hQ0=>?_);go_enter Tryz.func27,Tryz.ntmps27;go_upto_region 0 with(fail);refine wp_region_T [3] hK ?_;clear hK;refine eA (.cells #[.bool false,.slice none 0 0,.slice none 0 0] 46) (fun R1=>?_);refine sxEnd (fun W2 hK=>?_);go_upto_region 1 with(fail);refine wp_region_T [0,2,4] hK ?_;clear hK;refine e0 ?_;refine eC (fun w k=>ref_S (rof_q n 1 w (by omega) (by omega) (by omega) (by omega))) (fun x4=>?_);obtain⟨⟨p3,l3,c3⟩,⟨q3,u3,d3⟩⟩:=x4;dsimp only;refine eP 1 0 [.bool (isN (((n:Int):Rat)/((1:Int):Rat))),.slice p3 l3 c3,.slice q3 u3 d3] ?_ (hq:=.inr ⟨rfl,trivial⟩);refine sxEnd (fun W5 hK=>?_);have⟨c90,c91,c92⟩:=(hK.box m1).c3;go_wp2;exact bodyPost_ret (v:=.agg #[.bool (isN (((n:Int):Rat)/((1:Int):Rat))),.slice p3 l3 c3,.slice q3 u3 d3]) (by simp[results,Tryz.results27,go_sem,c90,c91,c92]) rfl (by obtain rfl:=hQ0.out;exact⟨_,rfl,((congrArg (RefR _ _) (by rw[←quo_ints n 1];show ofS (decide (n<0) !=false) n.natAbs 1=_;rw[Bool.bne_false];exact int_of n)).mp (hK.rq m0)),hK.old⟩)
set_option maxRecDepth 100000 in
theorem radd_q(v0:Value)(v1:Value)(x:Rat)(y:Rat)(w:World)(h0:RefR w v0 x)(h1:RefR w v1 y) {k:Nat}(hx:LmQ k x)(hy:LmQ k y)(hk:k≤10000):
    Calls Tryz.prog 32 #[v0,v1] w fun e w'=> ∃y0,e=.returned y0∧RefR w' y0 (x+y)∧Below w.heap.size w w':=by
  have h0_0:=h0;obtain⟨p_h0,c_h0,q_h0,d_h0,rfl,h0_1,h0_2⟩:=h0.slr;have h1_0:=h1;obtain⟨p_h1,c_h1,q_h1,d_h1,rfl,h1_1,h1_2⟩:=h1.slr;have hK:=SS.start w;have e1:(digs B6 (numQ x)).length≤50000:=d6_of hx.n (by omega);have e2:=d6_of hx.d (by omega);have e3:(digs B6 (numQ y)).length≤50000:=d6_of hy.n (by omega);have e4:=d6_of hy.d (by omega);have e5:(digs B6 (numQ x*y.den)).length≤50000:=d6_of (hx.n.mul hy.d) (by omega);have e6:(digs B6 (numQ y*x.den)).length≤50000:=d6_of (hy.n.mul hx.d) (by omega);have e7:=d6_of (hx.d.mul hy.d) (by omega);have e8:(digs B6 (numQ x*y.den+numQ y*x.den)).length≤50000:=d6_of ((hx.n.mul hy.d).add (hy.n.mul hx.d)) (by omega);have e9:(digs B6 (numQ x*y.den-numQ y*x.den)).length≤50000:=d6_of (hx.n.mul hy.d).sub (by omega);have e10:(digs B6 (numQ y*x.den-numQ x*y.den)).length≤50000:=d6_of (hy.n.mul hx.d).sub (by omega);have e11:(digs B6 (numQ x*numQ y)).length≤50000:=d6_of (hx.n.mul hy.n) (by omega);have e12:(digs B6 (x.den*numQ y)).length≤50000:=d6_of (hx.d.mul hy.n) (by omega);refine Calls.hide (fun Q0 hQ0=>?_);go_enter Tryz.func32,Tryz.ntmps32;go_upto_region 0 with(fail);refine wp_region_T [3,3,3] hK ?_;clear hK;refine eA (.cells #[.bool (isN x),.slice p_h0 (digs B6 (numQ x)).length c_h0,.slice q_h0 (digs B6 (den0 x)).length d_h0] 46) (fun R1=>?_);refine eA (.cells #[.bool (isN y),.slice p_h1 (digs B6 (numQ y)).length c_h1,.slice q_h1 (digs B6 (den0 y)).length d_h1] 46) (fun R2=>?_);refine eA (.cells #[.bool false,.slice none 0 0,.slice none 0 0] 46) (fun R3=>?_);refine sxEnd (fun W4 hK=>?_);go_upto_region 1 with(fail);refine wp_region_S _ [0,0,0,2,2,0,0,0,2,2,0,0] hK ?_ (List.Sublist.refl _);clear hK;refine e0 ?_;refine eL0 m2 ?_;refine eL0 m1 ?_;refine eC (fun w k=>ref_V (rone_q _ _ w (h1_0.below k.old))) (fun x6=>?_);obtain⟨p5,c5⟩:=x6;dsimp only;refine eC (fun w k=>ref_V (rmul_any _ _ _ _ w (h0_1.below k.old) (k.vf m0) (by omega) (by omega))) (fun x8=>?_);obtain⟨p7,c7⟩:=x8;dsimp only;refine e0 ?_;refine eL0 m1 ?_;refine eL0 m2 ?_;refine eC (fun w k=>ref_V (rone_q _ _ w (h0_0.below k.old))) (fun x10=>?_)
  obtain⟨p9,c9⟩:=x10;dsimp only;refine eC (fun w k=>ref_V (rmul_any _ _ _ _ w (h1_1.below k.old) (k.vf m0) (by omega) (by omega))) (fun x12=>?_);obtain⟨p11,c11⟩:=x12;dsimp only
  iterate 2 refine e0 ?_
  refine sxEnd (fun W13 hK=>?_);go_upto_region 2 with(fail);refine wp_region_S _ [0,2,0,2,2,0] hK ?_ (List.Sublist.refl _);clear hK;refine eL0 m6 ?_;refine eC (fun w k=>ref_V (rone_q _ _ w (h0_0.below k.old))) (fun x15=>?_);obtain⟨p14,c14⟩:=x15;dsimp only;refine eL0 m5 ?_;refine eC (fun w k=>ref_V (rone_q _ _ w (h1_0.below k.old))) (fun x17=>?_);obtain⟨p16,c16⟩:=x17;dsimp only;refine eC (fun w k=>ref_V (rmul_any _ _ _ _ w (k.vf m1) (k.vf m0) (by omega) (by omega))) (fun x19=>?_);obtain⟨p18,c18⟩:=x19;dsimp only;refine e0 ?_;refine sxEnd (fun W20 hK=>?_);go_upto_region 3 with(fail);refine wp_region_T [0,1,0,1,0,0] hK ?_;clear hK;refine e0 ?_;refine eL m9 ?_;refine e0 ?_;refine eL m8 ?_;refine eB (((isN x))==((isN y))) (fun b1 hb1=>?_);refine e0 ?_;refine sxEnd (fun W21 hK=>?_)
  cases b1
  · --
   go_upto_region 5 with(fail);refine wp_region_T [0,0,1,0,0] hK ?_;clear hK
   iterate 2 refine e0 ?_
   obtain⟨z1,hz1⟩:∃z9:Int,RowKit.Hid (cmpN ((numQ x)*y.den) ((numQ y)*x.den)=z9):=⟨_,hid rfl⟩;refine eQ (v:=.int .i64 z1) (fun w k=>rcmp_any _ _ _ _ w (k.vf m5) (k.vf m3) (by omega) (by omega)) ?_ (hv:=by rw[hz1.out]);refine eB (decide (0≤z1)) (fun b2 hb2=>?_);refine e0 ?_;refine sxEnd (fun W22 hK=>?_)
   cases b2
   · --
    have q_b2:z1<0:=Int.not_le.1 (of_decide_eq_false hb2.out);go_upto_region 8 with(fail);refine wp_region_T [0,0,2,0,0,0,0,0] hK ?_;clear hK
    iterate 2 refine e0 ?_
    obtain⟨z2,hz2⟩:∃z9:Int,RowKit.Hid ((if((numQ y)*x.den)<((numQ x)*y.den)then 2 else 0)=z9):=⟨_,hid rfl⟩;refine eC (fun w k=>(by have q:=ref_V (rsub_any _ _ _ _ w (k.vf m3) (k.vf m5) (by omega) (by omega));rw[hz2.out]at q;exact q)) (fun x24=>?_);obtain⟨p23,c23⟩:=x24;dsimp only
    iterate 5 refine e0 ?_
    refine sxEnd (fun W25 hK=>?_);go_upto_region 9 with(fail);refine wp_region_T [0,1,0,0,2,4] hK ?_;clear hK;refine e0 ?_;refine eL m9 ?_
    iterate 2 refine e0 ?_
    refine eC (fun w k=>ref_S (rmade_q _ _ (isN y) _ _ w (k.vf m0) (k.vf m1) (by omega) (by omega))) (fun x27=>?_);obtain⟨⟨p26,l26,c26⟩,⟨q26,u26,d26⟩⟩:=x27;dsimp only;refine eP 9 0 [.bool (isN (ofS (isN y) (((numQ y)*x.den)-((numQ x)*y.den)) (x.den*y.den))),.slice p26 l26 c26,.slice q26 u26 d26] ?_ (hq:=.inr ⟨rfl,rfl,rfl,rfl,rfl,rfl,rfl,rfl,rfl,rfl,rfl,trivial⟩);refine sxEnd (fun W28 hK=>?_);have⟨c90,c91,c92⟩:=(hK.box m9).c3;go_wp2;exact bodyPost_ret (v:=.agg #[.bool (isN (ofS (isN y) (((numQ y)*x.den)-((numQ x)*y.den)) (x.den*y.den))),.slice p26 l26 c26,.slice q26 u26 d26]) (by simp[results,Tryz.results32,go_sem,c90,c91,c92]) rfl (by obtain rfl:=hQ0.out;exact⟨_,rfl,((congrArg (RefR _ _) (radd_ff hb1.out hz1.out hb2.out)).mp (hK.rq m0)),hK.old⟩)
   · --
    have q_b2:0≤z1:=of_decide_eq_true hb2.out;go_upto_region 6 with(fail);refine wp_region_T [0,0,2,0,0,0,0,0] hK ?_;clear hK
    iterate 2 refine e0 ?_
    obtain⟨z2,hz2⟩:∃z9:Int,RowKit.Hid ((if((numQ x)*y.den)<((numQ y)*x.den)then 2 else 0)=z9):=⟨_,hid rfl⟩;refine eC (fun w k=>(by have q:=ref_V (rsub_any _ _ _ _ w (k.vf m5) (k.vf m3) (by omega) (by omega));rw[hz2.out]at q;exact q)) (fun x30=>?_);obtain⟨p29,c29⟩:=x30;dsimp only
    iterate 5 refine e0 ?_
    refine sxEnd (fun W31 hK=>?_);go_upto_region 7 with(fail);refine wp_region_T [0,1,0,0,2,4] hK ?_;clear hK;refine e0 ?_;refine eL m10 ?_
    iterate 2 refine e0 ?_
    refine eC (fun w k=>ref_S (rmade_q _ _ (isN x) _ _ w (k.vf m0) (k.vf m1) (by omega) (by omega))) (fun x33=>?_);obtain⟨⟨p32,l32,c32⟩,⟨q32,u32,d32⟩⟩:=x33;dsimp only;refine eP 9 0 [.bool (isN (ofS (isN x) (((numQ x)*y.den)-((numQ y)*x.den)) (x.den*y.den))),.slice p32 l32 c32,.slice q32 u32 d32] ?_ (hq:=.inr ⟨rfl,rfl,rfl,rfl,rfl,rfl,rfl,rfl,rfl,rfl,rfl,trivial⟩);refine sxEnd (fun W34 hK=>?_);have⟨c90,c91,c92⟩:=(hK.box m9).c3;go_wp2;exact bodyPost_ret (v:=.agg #[.bool (isN (ofS (isN x) (((numQ x)*y.den)-((numQ y)*x.den)) (x.den*y.den))),.slice p32 l32 c32,.slice q32 u32 d32]) (by simp[results,Tryz.results32,go_sem,c90,c91,c92]) rfl (by obtain rfl:=hQ0.out;exact⟨_,rfl,((congrArg (RefR _ _) (radd_ft hb1.out hz1.out hb2.out)).mp (hK.rq m0)),hK.old⟩)
  · --
   go_upto_region 4 with(fail);refine wp_region_S _ [0,0,0,0,2,0,2,4] hK ?_ (sK2 (sK2 (sK2 (sK2 (sK2 (sK2 (sK2 (sC2 (List.Sublist.refl _)))))))));clear hK;refine e0 ?_;refine eL0 m8 ?_
   iterate 2 refine e0 ?_
   refine eC (fun w k=>ref_V (radd_any _ _ _ _ w (k.vf m5) (k.vf m3) (by omega) (by omega))) (fun x36=>?_);obtain⟨p35,c35⟩:=x36;dsimp only;refine e0 ?_;refine eC (fun w k=>ref_S (rmade_q _ _ (isN x) _ _ w (k.vf m0) (k.vf m1) (by omega) (by omega))) (fun x38=>?_);obtain⟨⟨p37,l37,c37⟩,⟨q37,u37,d37⟩⟩:=x38;dsimp only;refine eP 9 0 [.bool (isN (ofS (isN x) (((numQ x)*y.den)+((numQ y)*x.den)) (x.den*y.den))),.slice p37 l37 c37,.slice q37 u37 d37] ?_ (hs:=(sC2 (sC2 (sK2 (sK2 (sK2 (sK2 (sK2 (sK2 (sK2 (sC2 (List.Sublist.refl _)))))))))))) (hq:=.inr ⟨rfl,rfl,rfl,rfl,rfl,rfl,rfl,rfl,rfl,rfl,rfl,trivial⟩);refine sxEnd (fun W39 hK=>?_);have⟨c90,c91,c92⟩:=(hK.box m9).c3;go_wp2;exact bodyPost_ret (v:=.agg #[.bool (isN (ofS (isN x) (((numQ x)*y.den)+((numQ y)*x.den)) (x.den*y.den))),.slice p37 l37 c37,.slice q37 u37 d37]) (by simp[results,Tryz.results32,go_sem,c90,c91,c92]) rfl (by obtain rfl:=hQ0.out;exact⟨_,rfl,((congrArg (RefR _ _) (radd_t hb1.out)).mp (hK.rq m0)),hK.old⟩)
set_option maxRecDepth 100000 in
theorem rdiv_q(v0:Value)(v1:Value)(x:Rat)(y:Rat)(w:World)(h0:RefR w v0 x)(h1:RefR w v1 y) {k:Nat}(hx:LmQ k x)(hy:LmQ k y)(hk:k≤10000):
    Calls Tryz.prog 30 #[v0,v1] w fun e w'=> ∃y0,e=.returned (.tuple #[y0,.int .i64 (if y=0 then 10 else 0)])∧RefR w' y0 (x/y)∧Below w.heap.size w w':=by
  have h0_0:=h0;obtain⟨p_h0,c_h0,q_h0,d_h0,rfl,h0_1,h0_2⟩:=h0.slr;have h1_0:=h1;obtain⟨p_h1,c_h1,q_h1,d_h1,rfl,h1_1,h1_2⟩:=h1.slr;have hK:=SS.start w;have e1:(digs B6 (numQ x)).length≤50000:=d6_of hx.n (by omega);have e2:=d6_of hx.d (by omega);have e3:(digs B6 (numQ y)).length≤50000:=d6_of hy.n (by omega);have e4:=d6_of hy.d (by omega);have e5:(digs B6 (numQ x*y.den)).length≤50000:=d6_of (hx.n.mul hy.d) (by omega);have e6:(digs B6 (numQ y*x.den)).length≤50000:=d6_of (hy.n.mul hx.d) (by omega);have e7:=d6_of (hx.d.mul hy.d) (by omega);have e8:(digs B6 (numQ x*y.den+numQ y*x.den)).length≤50000:=d6_of ((hx.n.mul hy.d).add (hy.n.mul hx.d)) (by omega);have e9:(digs B6 (numQ x*y.den-numQ y*x.den)).length≤50000:=d6_of (hx.n.mul hy.d).sub (by omega);have e10:(digs B6 (numQ y*x.den-numQ x*y.den)).length≤50000:=d6_of (hy.n.mul hx.d).sub (by omega);have e11:(digs B6 (numQ x*numQ y)).length≤50000:=d6_of (hx.n.mul hy.n) (by omega);have e12:(digs B6 (x.den*numQ y)).length≤50000:=d6_of (hx.d.mul hy.n) (by omega);refine Calls.hide (fun Q0 hQ0=>?_);go_enter Tryz.func30,Tryz.ntmps30;go_upto_region 0 with(fail);refine wp_region_T [3,3,3,0] hK ?_;clear hK;refine eA (.cells #[.bool (isN x),.slice p_h0 (digs B6 (numQ x)).length c_h0,.slice q_h0 (digs B6 (den0 x)).length d_h0] 46) (fun R1=>?_);refine eA (.cells #[.bool (isN y),.slice p_h1 (digs B6 (numQ y)).length c_h1,.slice q_h1 (digs B6 (den0 y)).length d_h1] 46) (fun R2=>?_);refine eA (.cells #[.bool false,.slice none 0 0,.slice none 0 0] 46) (fun R3=>?_);refine e0 ?_;refine sxEnd (fun W4 hK=>?_);go_upto_region 1 with(fail);refine wp_region_S _ [0,0,0,0,0,0,0,0,2,2,0,2,0,0,2,2,0,0,4,0] hK ?_ (sC2 (List.Sublist.refl _));clear hK;refine e0 ?_;refine eL0 m1 ?_;refine e0 ?_;refine eL0 m0 ?_
  iterate 2 refine e0 ?_
  refine eL0 m1 ?_;refine eL0 m0 ?_;refine eC (fun w k=>ref_V (rone_q _ _ w (h1_0.below k.old))) (fun x6=>?_);obtain⟨p5,c5⟩:=x6;dsimp only;refine eC (fun w k=>ref_V (rmul_any _ _ _ _ w (h0_1.below k.old) (k.vf m0) (by omega) (by omega))) (fun x8=>?_);obtain⟨p7,c7⟩:=x8;dsimp only;refine eL0 m1 ?_;refine eC (fun w k=>ref_V (rone_q _ _ w (h0_0.below k.old))) (fun x10=>?_);obtain⟨p9,c9⟩:=x10;dsimp only;refine e0 ?_;refine eL0 m0 ?_;refine eC (fun w k=>ref_V (rmul_any _ _ _ _ w (k.vf m0) (h1_1.below k.old) (by omega) (by omega))) (fun x12=>?_);obtain⟨p11,c11⟩:=x12;dsimp only;obtain⟨z1,hz1⟩:∃z9:Int,RowKit.Hid ((if(x.den*(numQ y))=0 then 10 else 0)=z9):=⟨_,hid rfl⟩;refine eC (fun w k=>(by have q:=ref2_S (rmake_q _ _ (((isN x)) !=((isN y))) _ _ w (k.vf m2) (k.vf m0) (by omega) (by omega));rw[hz1.out]at q;exact q)) (fun x14=>?_);obtain⟨⟨p13,l13,c13⟩,⟨q13,u13,d13⟩⟩:=x14;dsimp only
  iterate 2 refine e0 ?_
  refine eP 5 0 [.bool (isN (ofS (((isN x)) !=((isN y))) ((numQ x)*y.den) (x.den*(numQ y)))),.slice p13 l13 c13,.slice q13 u13 d13] ?_ (hs:=(sC2 (sC2 (sC2 (sC2 (sC2 (sC2 (List.Sublist.refl _)))))))) (hq:=.inr ⟨rfl,rfl,rfl,rfl,rfl,rfl,rfl,trivial⟩);refine e0 ?_;refine sxEnd (fun W15 hK=>?_);have⟨c90,c91,c92⟩:=(hK.box m5).c3;go_wp2;exact bodyPost_ret (v:=.tuple #[.agg #[.bool (isN (ofS (((isN x)) !=((isN y))) ((numQ x)*y.den) (x.den*(numQ y)))),.slice p13 l13 c13,.slice q13 u13 d13],.int .i64 z1]) (by simp[results,Tryz.results30,go_sem,c90,c91,c92]) rfl (by obtain rfl:=hQ0.out;exact⟨_,(by rw[rdiv_e hz1.out]),((congrArg (RefR _ _) (rdiv_a x y)).mp (hK.rq m0)),hK.old⟩)
end Go.Proofs.YtlhbcopaakejgaaGreatDoor
