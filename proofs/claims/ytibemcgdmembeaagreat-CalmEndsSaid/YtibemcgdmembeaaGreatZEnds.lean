/- CalmEnds of package tilthlaw21 answers true: the given statement. Conditions: none. -/
import Derived.Test.YtibemcgdmembeaaGreatRows
import Derived.Test.YtibemcgdmembeaaGreatZ21
import Derived.Test.YtibemcgdmembeaaGreatZP
import Derived.Test.YtibemcgdmembeaaGreatZL
set_option linter.unusedVariables false
set_option linter.unusedSimpArgs false
set_option maxRecDepth 100000
set_option maxHeartbeats 4000000
namespace Go.Proofs.YtibemcgdmembeaaGreat
open Go.RowKit
theorem acP{s:af}{c:gX}{N:Int->dB}{hs:List Int}{m:Int}(T:dM s c N hs m)(h1:c.buffer<=3)(h2:c.stack<=4): ∃a b:Nat,ZK s a/\ZC (s.Zl a) b/\dM (s.fin a b) c N hs m/\ (s.fin a b).aG=false/\ (s.fin a b).phase=0/\
  ZK (s.fin a b) 0/\ZC ((s.fin a b).Zl 0) 0/\ (a:Int)+b<=(c.aU+c.pages*c.page+4)*(c.pages+4)*2:=by
 have hf:=T.fits
 obtain⟨cur,az,I,_⟩:=T.inv
 obtain⟨n1,n2,n3,n4,_⟩:=I.lay.nums
 rw[T.cf]at n1 n2 n3 n4
 obtain⟨a,EA,_,adB,_⟩:=Z4 T
 have T1:=T.Zl a
 obtain⟨b,EB,bB⟩:=Z5 T1 EA.off
 have T2:dM (s.fin a b) c N hs m:=T1.Zm (b+1)
 have p2:(s.fin a b).phase=0:=(ZN T1 EB).1
 have v2:(s.fin a b).aG=false:=(Zz (s.Zl a) (b+1)).2.1.trans EA.off
 refine⟨a,b,EA,EB,T2,v2,p2,⟨fun k hk=>by omega,v2,by omega⟩,⟨fun k hk=>by omega, ?_,by omega⟩, ?_⟩
 ·show(s.fin a b).yV=false
  unfold af.yV
  rw[if_pos p2]
 ·have hp:=hf.p1
  have hz:(c.aU+c.pages*c.page)*3<=(c.aU+c.pages*c.page)*(c.pages+3):=Int.mul_le_mul_of_nonneg_left (by omega) (by omega)
  have e:(c.aU+c.pages*c.page+4)*(c.pages+4)=(c.aU+c.pages*c.page)*(c.pages+3)+(c.aU+c.pages*c.page)+4*(c.pages+4):=by
   generalize c.aU+c.pages*c.page=o
   rw[Int.add_mul,show c.pages+4=(c.pages+3)+1 by omega,Int.mul_add o]
   omega
  rw[e]
  omega
theorem abE{s:af}{c:gX}{N:Int->dB}{hs:List Int}{m:Int}(T:dM s c N hs m):wrap64 (c.pages*c.page)=c.pages*c.page/\wrap64 (c.aU+c.pages*c.page)=c.aU+c.pages*c.page/\wrap64 (c.aU+c.pages*c.page+4)=c.aU+c.pages*c.page+4/\wrap64 (c.pages+4)=c.pages+4/\
  wrap64 ((c.aU+c.pages*c.page+4)*(c.pages+4))=(c.aU+c.pages*c.page+4)*(c.pages+4)/\wrap64 ((c.aU+c.pages*c.page+4)*(c.pages+4)*2)=(c.aU+c.pages*c.page+4)*(c.pages+4)*2:=by
 have hf:=T.fits
 obtain⟨cur,az,I,_⟩:=T.inv
 obtain⟨n1,n2,n3,n4,_⟩:=I.lay.nums
 rw[T.cf]at n1 n2 n3 n4
 have hp:=hf.p1
 have hp2:=hf.p2
 have h0:0<=(c.aU+c.pages*c.page+4)*(c.pages+4):=Int.mul_nonneg (by omega) (by omega)
 have h1:(c.aU+c.pages*c.page+4)*(c.pages+4)<=30000*68:=Int.mul_le_mul (by omega) (by omega) (by omega) (by omega)
 exact⟨pq ⟨by omega,by omega⟩,pq ⟨by omega,by omega⟩,pq ⟨by omega,by omega⟩,pq ⟨by omega,by omega⟩,pq ⟨by omega,by omega⟩,pq ⟨by omega,by omega⟩⟩
theorem aa5(a b c d:Int)(sv:Value)(l:List lM)(ha:U8 a)(hb:U8 b)(hc:U8 c)(hd:U8 d){w:World}(hs:xy w sv l):
  Calls Tryz.prog 6 #[.int .u8 a, .int .u8 b, .int .u8 c, .int .u8 d,sv] w fun e w'=>e= .returned (.bool true)/\aj [] [] w w':=by
 have hr:=Lib.hid (VF a b c d sv l ha hb hc hd hs)
 have hcore:=Lib.hid (fun ph pc W hb=>ve ph pc W hb)
 have hB:(fO a b c d).buffer<=3/\ (fO a b c d).stack<=4:=by
  obtain⟨c1,c2⟩:=hc
  exact⟨by show c/4 % 4<=3;omega,by show c/16 % 4+1<=4;omega⟩
 have HB:=Lib.hid hB
 have hfin:=Lib.hid (fun pc L s c N hs m (T:dM s c N hs m) a b (E1:ZK s a) (E2:ZC (s.Zl a) b) W h (hi:In W h) (hc:ah pc L s h)=>ZL pc L T a b E1 E2 W h hi hc)
 clear ha hb hc hd hs hB
 simp only[ptr]at hcore hfin
 generalize fO a b c d=C at*
 go_enter Tryz.func6,Tryz.ntmps6
 go_wp2_with(first
  | (go_at_call 28;refine Calls.mono hr.out ?_;rintro e w1 ⟨ph,pc,L,s,g,h1,rfl,R,_,c1,u1⟩;have U1:=Lib.hid u1;have C1:=Lib.hid c1;have HR:=Lib.hid R.tied;clear u1 c1 R hr;obtain⟨ea,eb,E1,E2,T2,v2,p2,E3,E4,hle⟩:=acP HR.out HB.out.1 HB.out.2;have HF1:=Lib.hid (fun W h (hi:In W h) (hc:ah pc L s h)=>hfin.out pc L s C _ _ _ HR.out ea eb E1 E2 W h hi hc);have HF2:=Lib.hid (fun W h (hi:In W h) (hc:ah pc L (s.fin ea eb) h)=>hfin.out pc L (s.fin ea eb) C _ _ _ T2 0 0 E3 E4 W h hi hc);have HV:=Lib.hid v2;have HP:=Lib.hid p2;clear hfin E1 E2 T2 v2 p2 E3 E4;simp only[Int.natCast_zero,Int.add_zero]at HF2;obtain⟨q1,q2,q3,q4,q5,q6⟩:=abE HR.out;generalize (s.fin ea eb).fin 0 0=s2 at*;generalize s.fin ea eb=s' at*;have hn:decide ((ea:Int)+eb<=(C.aU+C.pages*C.page+4)*(C.pages+4)*2)=true:=decide_eq_true hle)
  | (go_at_call 29;refine Calls.mono (ZT _) ?_;rintro e w2 ⟨rfl,u2⟩;have U2:=Lib.hid (U1.out.dK u2);clear u2 U1)
  | (go_at_call 23;refine Calls.mono (hcore.out _ _ _ U2.out.au.head) ?_;rintro e wa ⟨rfl,XE⟩;obtain rfl:=XE.symm;clear XE;obtain⟨t0,t1,t2,t3,t4,t5,t6,t7,t8,t9,t10,t11,t12,_,_⟩:=C1.out.Xg U2.out.au.tail HR.out.cf;have U3:=Lib.hid (U2.out.alloc' (.cells (aN C) 23 (0,0)));obtain⟨_,g1,g2,g3,_⟩:=dY U3.out.au.head;simp only[aN]at U3 g1 g2 g3)
  | (go_at_call 23;refine Calls.mono (hcore.out _ _ _ U3.out.au.tail.head) ?_;rintro e wb ⟨rfl,XE⟩;obtain rfl:=XE.symm;clear XE)
  | (go_at_call 30;refine Calls.mono (HF1.out _ _ U3.out.au.tail.tail C1.out) ?_;rintro e w4 ⟨rfl,h4,c4,u4⟩;have U4:=Lib.hid (aj.dP (x:=[_,_]) U3.out u4);have C4:=Lib.hid c4;clear u4 c4;have z2:w4.cell? ⟨w2.heap.size,2,none⟩=some (.int .i64 C.pages):=cell_of U4.out.au.head 2;obtain⟨k20,k21⟩:=ah.vars (x:=[_,_]) C4.out U4.out.au;rw[HP.out]at k20;rw[HV.out]at k21)
  | (go_at_call 23;refine Calls.mono (hcore.out _ _ _ U4.out.au.tail.head) ?_;rintro e wc ⟨rfl,XE⟩;obtain rfl:=XE.symm;clear XE)
  | (go_at_call 30;refine Calls.mono (HF2.out _ _ U4.out.au.tail.tail C4.out) ?_;rintro e w5 ⟨rfl,h5,c5,u5⟩;have U5:=Lib.hid (aj.dP (x:=[_,_]) U4.out u5)))
 go_ret
 exact⟨by first|rfl|trivial,U5.out.forget (List.nil_sublist _)⟩
end Go.Proofs.YtibemcgdmembeaaGreat
namespace Go.Proofs.YtibemcgdmembeaaGreat
open Go.ChangeShapes Go.WideShapes Go.ChangeAt Go.RowKit
theorem aaw(os:Os)(started:os.Started)(H:Type)(enc:TypeId×Value->H):
  ReturnsInHanded {} Tryz.checked os 6 .any (Rows.calmEndsSpec.pre6 enc Tryz.prog Tryz.f6 Rows.calmEndsRow.domain false) (Rows.calmEndsSpec.post enc Tryz.prog Tryz.f6 false true false false):=by
 refine returnsInHanded_of_change (C:=Tryz.checked) Tryz.own started (by kernel_rfl) Tryz.func6
  (ChangeSpec.witness6 (enc:=enc) (C:=Tryz.checked) false ⟨#[],#[.int .u8 0, .int .u8 0, .int .u8 0, .int .u8 0, .slice none 0 0],[]⟩ 8 (by kernel_rfl) (by kernel_rfl) (by kernel_rfl) (by kernel_rfl)) ?_
 intro W base args ds gs before hval0 hW hcnd _
 have hval: ∀(j:Nat) t v,Tryz.f6.params[j]? =some t->args[j]? =some v->Value.okWide Tryz.prog W .any base t v:=hval0
 have hW':=hW
 obtain⟨p,q,hA0,hV,rfl,hfz,hnd⟩:=hW
 have hA:DataW.TrodAll enc Tryz.prog W 0 (fun _=>true) true Tryz.f6.params.toList args.toList ds p:=hA0
 rw[Tryz.params6]at hA hval
 obtain⟨v0,vs0,d0,ds0,p0,q0,hargs,rfl,rfl,h0,r0⟩:=trodAll_cons hA
 obtain⟨v1,vs1,d1,ds1,p1,q1,rfl,rfl,rfl,h1,r1⟩:=trodAll_cons r0
 obtain⟨v2,vs2,d2,ds2,p2,q2,rfl,rfl,rfl,h2,r2⟩:=trodAll_cons r1
 obtain⟨v3,vs3,d3,ds3,p3,q3,rfl,rfl,rfl,h3,r3⟩:=trodAll_cons r2
 obtain⟨v4,vs4,d4,ds4,p4,q4,rfl,rfl,rfl,h4,r4⟩:=trodAll_cons r3
 obtain⟨rfl,rfl,rfl⟩:=trodAll_nil r4
 obtain rfl:args=#[v0,v1,v2,v3,v4]:=by cases args;simp_all
 obtain⟨rfl,rfl⟩:=trodVars_none hV
 obtain⟨a0,rfl,rfl,rfl,w0⟩:=open_int Tryz.underlying5 (hval 0 5 v0 rfl rfl) h0
 obtain⟨a1,rfl,rfl,rfl,w1⟩:=open_int Tryz.underlying5 (hval 1 5 v1 rfl rfl) h1
 obtain⟨a2,rfl,rfl,rfl,w2⟩:=open_int Tryz.underlying5 (hval 2 5 v2 rfl rfl) h2
 obtain⟨a3,rfl,rfl,rfl,w3⟩:=open_int Tryz.underlying5 (hval 3 5 v3 rfl rfl) h3
 have k4:=h4
 have lt4: ∀x∈p4,x.block<W.heap.size:=by obtain⟨m,hm⟩:=k4;exact DataW.trod_lt m _ _ _ hm
 obtain⟨a4,w4⟩:=Ky (hval 4 24 v4 rfl rfl) h4
 clear hA0 hval0
 refine(aa5 a0 a1 a2 a3 v4 a4 (LJ w0) (LJ w1) (LJ w2) (LJ w3) w4).mono fun e W' ⟨he,hu⟩=> ?_
 subst he
 exact⟨_,rfl,zQ (pv:=[]) hW' (fun _ _ _=>trodAll_cons_mk (shut_bool Tryz.underlying4 _) trodAll_mk0) (trodAll_cons_mk (shut_int Tryz.underlying5 w0) (trodAll_cons_mk (shut_int Tryz.underlying5 w1) (trodAll_cons_mk (shut_int Tryz.underlying5 w2) (trodAll_cons_mk (shut_int Tryz.underlying5 w3) (trodAll_cons_mk (Below.trod Tryz.laidOut (by kernel_rfl) (of_decide_eq_true (by kernel_rfl)) k4 hu.below lt4) trodAll_mk0))))) (fun _ _=>rfl) rfl
  (hu.below.frame _)⟩
theorem calmEnds_holds:Rows.CalmEndsSaid:=
 OpenClaim.holds_of_wide 6 Tryz.f6 rfl rfl rfl rfl rfl rfl rfl ⟨rfl,rfl,rfl,rfl,rfl⟩ rfl rfl rfl rfl rfl (by kernel_rfl) Tryz.func6 (by kernel_rfl)
  (of_decide_eq_true (by kernel_rfl)) (by unfold Func.isWrapper;first|(rw[if_pos (by decide+kernel)];kernel_rfl)|(rw[if_neg (by decide+kernel)];exact⟨rfl,rfl⟩))
  (fun os started H enc _=>aaw os started H enc)
#print axioms calmEnds_holds
end Go.Proofs.YtibemcgdmembeaaGreat
