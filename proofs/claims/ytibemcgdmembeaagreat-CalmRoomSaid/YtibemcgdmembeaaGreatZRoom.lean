/- CalmRoom of package tilthlaw21 answers true: the given statement. Conditions: none. -/
import Derived.Test.YtibemcgdmembeaaGreatRows
import Derived.Test.YtibemcgdmembeaaGreatZ21
import Derived.Test.YtibemcgdmembeaaGreatZP
import Derived.Test.YtibemcgdmembeaaGreatZL
set_option linter.unusedVariables false
set_option linter.unusedSimpArgs false
set_option maxRecDepth 100000
set_option maxHeartbeats 4000000
namespace Go.Proofs.YtibemcgdmembeaaGreat
open Go.RowKit
theorem ab9{s s':af}{c:gX}{g:a_}(F:abQ s s' c g){p q:Int}(p0:0<=p)(q0:0<=q)(hpq:p+q<=c.largest):
  (s'.gI 0 p q=0∨s'.gI 0 p q=7)/\ (s'.y.cu+s'.o.used+p+q+2<=c.aU->s'.gI 0 p q=0):=by
 have T:=F.rel.tied
 obtain⟨cur,az,I,_⟩:=T.inv
 have hf:=T.fits
 have htl:=T.tl
 have h1:=hf.h1
 have hok:bY s'.t 0=true:=by
  unfold bY
  simp only[decide_eq_true_eq]
  omega
 have hsh:s'.eX p q=true:=by
  unfold af.eX
  rw[T.cf]
  simp only[decide_eq_true_eq]
  omega
 have e:s'.gI 0 p q=if s'.qK (p+q+2)then 0 else 7:=by
  unfold af.gI
  rw[hok,hsh]
  rfl
 rw[e]
 refine⟨by split<;>simp,fun h=> ?_⟩
 obtain⟨_,_,_,_,u0,_⟩:=aaP F
 rw[if_pos]
 unfold af.qK af.kept aJ.room
 rw[F.mv,I.lay.yw,T.cf]
 simp only[Bool.false_eq_true,if_false,decide_eq_true_eq]
 omega
theorem abf(a b c d:Int)(sv:Value)(l:List lM)(r0 r1:Int)(ha:U8 a)(hb:U8 b)(hc:U8 c)(hd:U8 d){w:World}(hs:xy w sv l)(hr0:U8 r0)(hr1:U8 r1):
  Calls Tryz.prog 13 #[.int .u8 a, .int .u8 b, .int .u8 c, .int .u8 d,sv, .int .u8 r0, .int .u8 r1] w fun e w'=>e= .returned (.bool true)/\aj [] [] w w':=by
 have hr:=Lib.hid (VF a b c d sv l ha hb hc hd hs)
 have hcore:=Lib.hid (fun ph pc W hb=>ve ph pc W hb)
 have hL:1<=(fO a b c d).largest/\ (fO a b c d).largest<=8:=by
  obtain⟨d1,d2⟩:=hd
  exact⟨by show 1<=d % 8+1;omega,by show d % 8+1<=8;omega⟩
 have hfull:=Lib.hid (fun pc L s c N hs m (T:dM s c N hs m) a b d f (E:ZJ s a b d f) W h (hi:In W h) (hc:ah pc L s h)=>aag pc L T a b d f E W h hi hc)
 have nP:=Lib.hid (fun pc L s c g (R:lG s c g) (hb:g.nodes.length<=1000000) W h (hi:In W h) (hc:ah pc L s h)=>ab8 pc L R hb W h hi hc)
 have acN:=Lib.hid (fun pc L s (Z:af.FO s) i p c W h (hi:In W h) (hc:ah pc L s h)=>CB pc L Z i p c W h hi hc)
 clear ha hb hc hd hs
 simp only[ptr]at hcore hfull nP acN
 generalize fO a b c d=C at*
 obtain⟨hL1,hL2⟩:=hL
 obtain⟨r00,r01⟩:=hr0
 obtain⟨r10,r11⟩:=hr1
 have hz:C.largest+1≠0:=by omega
 have hw1:wrap64 (C.largest+1)=C.largest+1:=pq ⟨by omega,by omega⟩
 have hm1:r0.tmod (C.largest+1)=r0 % (C.largest+1):=Int.tmod_eq_emod_of_nonneg r00
 have hp0:0<=r0 % (C.largest+1):=Int.emod_nonneg _ hz
 have hp1:r0 % (C.largest+1)<C.largest+1:=Int.emod_lt_of_pos _ (by omega)
 obtain⟨p,hp⟩: ∃p,p=r0 % (C.largest+1):=⟨_,rfl⟩
 rw[<-hp]at hm1 hp0 hp1
 clear hp
 have hw2:wrap64 (C.largest+1-p)=C.largest+1-p:=pq ⟨by omega,by omega⟩
 have hz2:C.largest+1-p≠0:=by omega
 have hm2:r1.tmod (C.largest+1-p)=r1 % (C.largest+1-p):=Int.tmod_eq_emod_of_nonneg r10
 have hq0:0<=r1 % (C.largest+1-p):=Int.emod_nonneg _ hz2
 have hq1:r1 % (C.largest+1-p)<C.largest+1-p:=Int.emod_lt_of_pos _ (by omega)
 obtain⟨q,hq⟩: ∃q,q=r1 % (C.largest+1-p):=⟨_,rfl⟩
 rw[<-hq]at hm2 hq0 hq1
 clear hq
 go_enter Tryz.func13,Tryz.ntmps13
 go_wp2_with(first
  | (go_at_call 28;refine Calls.mono hr.out ?_;rintro e w1 ⟨ph,pc,L,s,g,h1,rfl,R,hn,c1,u1⟩;have U1:=Lib.hid u1;have C1:=Lib.hid c1;have HR:=Lib.hid R;clear u1 c1 R hr)
  | (go_at_call 29;refine Calls.mono (ZT _) ?_;rintro e w2 ⟨rfl,u2⟩;have U2:=Lib.hid (U1.out.dK u2);clear u2 U1)
  | (go_at_call 23;refine Calls.mono (hcore.out _ _ _ U2.out.au.head) ?_;rintro e wa ⟨rfl,XE⟩;obtain rfl:=XE.symm;clear XE;obtain⟨t0,t1,t2,t3,t4,t5,t6,t7,t8,t9,t10,t11,t12,_,_⟩:=C1.out.Xg U2.out.au.tail HR.out.tied.cf;have U3:=Lib.hid (U2.out.alloc' (.cells (aN C) 23 (0,0)));obtain⟨_,g1,_,_,_,_,_,_,g8,_⟩:=dY U3.out.au.head;simp only[aN]at U3 g1 g8))
 obtain⟨ea,eb,ed,ef,E,F⟩:=acM HR.out
 have HF1:=Lib.hid (fun W h (hi:In W h) (hc:ah pc L s h)=>hfull.out pc L s C _ _ _ HR.out.tied ea eb ed ef E W h hi hc)
 have HF:=Lib.hid F
 clear E F hfull
 generalize s.Zy ea eb ed ef=s' at*
 obtain⟨hre,hr7⟩:=ab9 HF.out (p:=p) (q:=q) hp0 hq0 (by omega)
 obtain⟨_,_,v1,v2,v3,v4,_⟩:=aaP HF.out
 have hsm:=HF.out.rel.tied.fits.small
 have hn2:=HF.out.rel.tied.fits.n2
 have hwd:=Lib.hid (fun W h (hi:In W h) (hc:ah pc L s' h)=>nP.out pc L s' C g HF.out.rel (by omega) W h hi hc)
 have hmk:=Lib.hid (fun W h (hi:In W h) (hc:ah pc L s' h)=>acN.out pc L s' HF.out.rel.tied.Vu 0 p q W h hi hc)
 rw[HF.out.wy,HF.out.adM]at hwd
 clear nP acN
 obtain⟨n,hn⟩: ∃n:Int,n=(ea:Int)+eb+ed+ef:=⟨_,rfl⟩
 rw[<-hn]at HF1
 clear hn
 generalize s'.gI 0 p q=E0 at*
 generalize s'.make 0 p q=s3 at*
 generalize s'.y.cu=y at*
 generalize s'.o.used=o at*
 have hpp:C.pages*C.page<=16384:=gX.pU hsm|>.2
 have k1:wrap64 (y+o)=y+o:=pq ⟨by omega,by omega⟩
 have k2:wrap64 (y+o+p)=y+o+p:=pq ⟨by omega,by omega⟩
 have k3:wrap64 (y+o+p+q)=y+o+p+q:=pq ⟨by omega,by omega⟩
 have k4:wrap64 (y+o+p+q+2)=y+o+p+q+2:=pq ⟨by omega,by omega⟩
 by_cases hfit:y+o+p+q+2<=C.aU
 ·have hE:=hr7 hfit
  subst hE
  clear hre hr7
  go_wp2_with(first
   | (go_at_call 23;refine Calls.mono (hcore.out _ _ _ U3.out.au.tail.head) ?_;rintro e wb ⟨rfl,XE⟩;obtain rfl:=XE.symm;clear XE)
   | (go_at_call 31;refine Calls.mono (HF1.out _ _ U3.out.au.tail.tail C1.out) ?_;rintro e w4 ⟨rfl,h4,c4,u4⟩;have U4:=Lib.hid (aj.dP (x:=[_,_]) U3.out u4);have C4:=Lib.hid c4;clear u4 c4)
   | (go_at_call 23;refine Calls.mono (hcore.out _ _ _ U4.out.au.tail.head) ?_;rintro e wc ⟨rfl,XE⟩;obtain rfl:=XE.symm;clear XE)
   | (go_at_call 37;refine Calls.mono (hwd.out _ _ U4.out.au.tail.tail C4.out) ?_;rintro e w5 ⟨rfl,h5,c5,u5⟩;have U5:=Lib.hid (aj.dP (x:=[_,_]) U4.out u5);have C5:=Lib.hid c5;clear u5 c5)
   | (go_at_call 23;refine Calls.mono (hcore.out _ _ _ U5.out.au.tail.head) ?_;rintro e wd ⟨rfl,XE⟩;obtain rfl:=XE.symm;clear XE)
   | (go_at_call 41;refine Calls.mono (hmk.out _ _ U5.out.au.tail.tail C5.out) ?_;rintro e w6 ⟨rfl,h6,c6,u6⟩;have U6:=Lib.hid (aj.dP (x:=[_,_]) U5.out u6);have z1:w6.cell? ⟨w2.heap.size,1,none⟩=some (.int .i64 C.aU):=cell_of U6.out.au.head 1;clear u6 c6))
  go_ret
  exact⟨by first|rfl|trivial,U6.out.forget (List.nil_sublist _)⟩
 ·clear hr7
  rcases hre with hE|hE
  all_goals
   subst hE
   go_wp2_with(first
    | (go_at_call 23;refine Calls.mono (hcore.out _ _ _ U3.out.au.tail.head) ?_;rintro e wb ⟨rfl,XE⟩;obtain rfl:=XE.symm;clear XE)
    | (go_at_call 31;refine Calls.mono (HF1.out _ _ U3.out.au.tail.tail C1.out) ?_;rintro e w4 ⟨rfl,h4,c4,u4⟩;have U4:=Lib.hid (aj.dP (x:=[_,_]) U3.out u4);have C4:=Lib.hid c4;clear u4 c4)
    | (go_at_call 23;refine Calls.mono (hcore.out _ _ _ U4.out.au.tail.head) ?_;rintro e wc ⟨rfl,XE⟩;obtain rfl:=XE.symm;clear XE)
    | (go_at_call 37;refine Calls.mono (hwd.out _ _ U4.out.au.tail.tail C4.out) ?_;rintro e w5 ⟨rfl,h5,c5,u5⟩;have U5:=Lib.hid (aj.dP (x:=[_,_]) U4.out u5);have C5:=Lib.hid c5;clear u5 c5)
    | (go_at_call 23;refine Calls.mono (hcore.out _ _ _ U5.out.au.tail.head) ?_;rintro e wd ⟨rfl,XE⟩;obtain rfl:=XE.symm;clear XE)
    | (go_at_call 41;refine Calls.mono (hmk.out _ _ U5.out.au.tail.tail C5.out) ?_;rintro e w6 ⟨rfl,h6,c6,u6⟩;have U6:=Lib.hid (aj.dP (x:=[_,_]) U5.out u6);have z1:w6.cell? ⟨w2.heap.size,1,none⟩=some (.int .i64 C.aU):=cell_of U6.out.au.head 1;clear u6 c6))
   go_ret
   exact⟨by first|rfl|trivial,U6.out.forget (List.nil_sublist _)⟩
end Go.Proofs.YtibemcgdmembeaaGreat
namespace Go.Proofs.YtibemcgdmembeaaGreat
open Go.ChangeShapes Go.WideShapes Go.ChangeAt Go.RowKit
theorem aaB(os:Os)(started:os.Started)(H:Type)(enc:TypeId×Value->H):
  ReturnsInHanded {} Tryz.checked os 13 .any (Rows.calmRoomSpec.pre6 enc Tryz.prog Tryz.f13 Rows.calmRoomRow.domain false) (Rows.calmRoomSpec.post enc Tryz.prog Tryz.f13 false true false false):=by
 refine returnsInHanded_of_change (C:=Tryz.checked) Tryz.own started (by kernel_rfl) Tryz.func13
  (ChangeSpec.witness6 (enc:=enc) (C:=Tryz.checked) false ⟨#[],#[.int .u8 0, .int .u8 0, .int .u8 0, .int .u8 0, .slice none 0 0, .int .u8 0, .int .u8 0],[]⟩ 8 (by kernel_rfl) (by kernel_rfl) (by kernel_rfl) (by kernel_rfl)) ?_
 intro W base args ds gs before hval0 hW hcnd _
 have hval: ∀(j:Nat) t v,Tryz.f13.params[j]? =some t->args[j]? =some v->Value.okWide Tryz.prog W .any base t v:=hval0
 have hW':=hW
 obtain⟨p,q,hA0,hV,rfl,hfz,hnd⟩:=hW
 have hA:DataW.TrodAll enc Tryz.prog W 0 (fun _=>true) true Tryz.f13.params.toList args.toList ds p:=hA0
 rw[Tryz.params13]at hA hval
 obtain⟨v0,vs0,d0,ds0,p0,q0,hargs,rfl,rfl,h0,r0⟩:=trodAll_cons hA
 obtain⟨v1,vs1,d1,ds1,p1,q1,rfl,rfl,rfl,h1,r1⟩:=trodAll_cons r0
 obtain⟨v2,vs2,d2,ds2,p2,q2,rfl,rfl,rfl,h2,r2⟩:=trodAll_cons r1
 obtain⟨v3,vs3,d3,ds3,p3,q3,rfl,rfl,rfl,h3,r3⟩:=trodAll_cons r2
 obtain⟨v4,vs4,d4,ds4,p4,q4,rfl,rfl,rfl,h4,r4⟩:=trodAll_cons r3
 obtain⟨v5,vs5,d5,ds5,p5,q5,rfl,rfl,rfl,h5,r5⟩:=trodAll_cons r4
 obtain⟨v6,vs6,d6,ds6,p6,q6,rfl,rfl,rfl,h6,r6⟩:=trodAll_cons r5
 obtain⟨rfl,rfl,rfl⟩:=trodAll_nil r6
 obtain rfl:args=#[v0,v1,v2,v3,v4,v5,v6]:=by cases args;simp_all
 obtain⟨rfl,rfl⟩:=trodVars_none hV
 obtain⟨a0,rfl,rfl,rfl,w0⟩:=open_int Tryz.underlying5 (hval 0 5 v0 rfl rfl) h0
 obtain⟨a1,rfl,rfl,rfl,w1⟩:=open_int Tryz.underlying5 (hval 1 5 v1 rfl rfl) h1
 obtain⟨a2,rfl,rfl,rfl,w2⟩:=open_int Tryz.underlying5 (hval 2 5 v2 rfl rfl) h2
 obtain⟨a3,rfl,rfl,rfl,w3⟩:=open_int Tryz.underlying5 (hval 3 5 v3 rfl rfl) h3
 have k4:=h4
 have lt4: ∀x∈p4,x.block<W.heap.size:=by obtain⟨m,hm⟩:=k4;exact DataW.trod_lt m _ _ _ hm
 obtain⟨a4,w4⟩:=Ky (hval 4 24 v4 rfl rfl) h4
 obtain⟨a5,rfl,rfl,rfl,w5⟩:=open_int Tryz.underlying5 (hval 5 5 v5 rfl rfl) h5
 obtain⟨a6,rfl,rfl,rfl,w6⟩:=open_int Tryz.underlying5 (hval 6 5 v6 rfl rfl) h6
 clear hA0 hval0
 refine(abf a0 a1 a2 a3 v4 a4 a5 a6 (LJ w0) (LJ w1) (LJ w2) (LJ w3) w4 (LJ w5) (LJ w6)).mono fun e W' ⟨he,hu⟩=> ?_
 subst he
 exact⟨_,rfl,zQ (pv:=[]) hW' (fun _ _ _=>trodAll_cons_mk (shut_bool Tryz.underlying4 _) trodAll_mk0) (trodAll_cons_mk (shut_int Tryz.underlying5 w0) (trodAll_cons_mk (shut_int Tryz.underlying5 w1) (trodAll_cons_mk (shut_int Tryz.underlying5 w2) (trodAll_cons_mk (shut_int Tryz.underlying5 w3) (trodAll_cons_mk (Below.trod Tryz.laidOut (by kernel_rfl) (of_decide_eq_true (by kernel_rfl)) k4 hu.below lt4) (trodAll_cons_mk (shut_int Tryz.underlying5 w5) (trodAll_cons_mk (shut_int Tryz.underlying5 w6) trodAll_mk0))))))) (fun _ _=>rfl) rfl
  (hu.below.frame _)⟩
theorem calmRoom_holds:Rows.CalmRoomSaid:=
 OpenClaim.holds_of_wide 13 Tryz.f13 rfl rfl rfl rfl rfl rfl rfl ⟨rfl,rfl,rfl,rfl,rfl⟩ rfl rfl rfl rfl rfl (by kernel_rfl) Tryz.func13 (by kernel_rfl)
  (of_decide_eq_true (by kernel_rfl)) (by unfold Func.isWrapper;first|(rw[if_pos (by decide+kernel)];kernel_rfl)|(rw[if_neg (by decide+kernel)];exact⟨rfl,rfl⟩))
  (fun os started H enc _=>aaB os started H enc)
#print axioms calmRoom_holds
end Go.Proofs.YtibemcgdmembeaaGreat
