/- CalmOnce of package tilthlaw21 answers true: the given statement. Conditions: none. -/
import Derived.Test.YtibemcgdmembeaaGreatRows
import Derived.Test.YtibemcgdmembeaaGreatZ21
import Derived.Test.YtibemcgdmembeaaGreatZP
import Derived.Test.YtibemcgdmembeaaGreatZL
set_option linter.unusedVariables false
set_option linter.unusedSimpArgs false
set_option maxRecDepth 100000
set_option maxHeartbeats 4000000
namespace Go.Proofs.YtibemcgdmembeaaGreat
open Go.RowKit
theorem abz{s:af}{c:gX}{N:Int->dB}{hs:List Int}{m:Int}(T:dM s c N hs m): ∃a b d f:Nat,ZJ s a b d f/\dM (s.Zy a b d f) c N hs m/\ (s.Zy a b d f).aG=false/\ (s.Zy a b d f).phase=0/\
  (s.Zy a b d f).Zr.minors=wrap64 ((if s.aG then wrap64 (s.Zr.minors+1)else s.Zr.minors)+1)/\ (s.Zy a b d f).Zr.qP=wrap64 ((if s.phase=0 then s.Zr.qP else wrap64 (s.Zr.qP+1))+1):=by
 obtain⟨a,b,d,f,E,_,_,_,_,h1,h2,_,_,h3,h4,_⟩:=aaX T
 exact⟨a,b,d,f,E,((((T.Zl a).Zm (b+1)).dF.Zm (d+1)).eY).Zl f,h1,h2,h3,h4⟩
theorem abb(a b c d:Int)(sv:Value)(l:List lM)(ha:U8 a)(hb:U8 b)(hc:U8 c)(hd:U8 d){w:World}(hs:xy w sv l):
  Calls Tryz.prog 9 #[.int .u8 a, .int .u8 b, .int .u8 c, .int .u8 d,sv] w fun e w'=>e= .returned (.bool true)/\aj [] [] w w':=by
 have hr:=Lib.hid (VF a b c d sv l ha hb hc hd hs)
 have hcore:=Lib.hid (fun ph pc W hb=>ve ph pc W hb)
 have hst:=Lib.hid (fun ph pc L s (Z:af.FO s) W h (hi:In W ((ph,aC pc)::h)) (hc:ah pc L s h)=>ZZ ph pc L Z W h hi hc)
 have hfull:=Lib.hid (fun pc L s c N hs m (T:dM s c N hs m) a b d f (E:ZJ s a b d f) W h (hi:In W h) (hc:ah pc L s h)=>aag pc L T a b d f E W h hi hc)
 clear ha hb hc hd hs
 simp only[ptr]at hcore hfull
 generalize fO a b c d=C at*
 go_enter Tryz.func9,Tryz.ntmps9
 go_wp2_with(first
  | (go_at_call 28;refine Calls.mono hr.out ?_;rintro e w1 ⟨ph,pc,L,s,g,h1,rfl,R,_,c1,u1⟩;have U1:=Lib.hid u1;have C1:=Lib.hid c1;have HR:=Lib.hid R.tied;clear u1 c1 R hr)
  | (go_at_call 29;refine Calls.mono (ZT _) ?_;rintro e w2 ⟨rfl,u2⟩;have U2:=Lib.hid (U1.out.dK u2);clear u2 U1)
  | (go_at_call 23;refine Calls.mono (hcore.out _ _ _ U2.out.au.head) ?_;rintro e wa ⟨rfl,XE⟩;obtain rfl:=XE.symm;clear XE)
  | (go_at_call 32;refine Calls.mono (hst.out _ _ _ _ HR.out.Vu _ _ U2.out.au C1.out) ?_;rintro e w3 ⟨rfl,h3,c3,u3⟩;have U3:=U2.out.trans u3;have C3:=Lib.hid c3;clear u3 c3 U2 C1;have HO:=abz HR.out;generalize s.Zr=T1 at*;have U4:=Lib.hid (U3.alloc' (.cells (statCells T1) 61 (0,0)));obtain⟨_,_,_,y3,y4,_⟩:=Zq (d:=T1) U4.out.au.head;simp only[statCells]at y3 y4 U4;simp only[statCells];clear U3))
 obtain⟨ea,eb,ed,ef,E,T2,v2,p2,m2,j2⟩:=HO
 have HE:=Lib.hid E
 have HT2:=Lib.hid T2
 have HM:=Lib.hid m2
 have HJ:=Lib.hid j2
 have HV:=Lib.hid v2
 have HP:=Lib.hid p2
 clear E T2 v2 p2 m2 j2
 go_quiet (fail)
 have U5:=Lib.hid (U4.out.drewN' nq)
 have C5:=C3
 clear U4 y3 y4
 have hn0:(0:Int)<=(ea:Int)+eb+ed+ef:=by omega
 obtain⟨k20,k21⟩:=ah.vars (x:=[_,_]) C5.out U5.out.au
 have HF:=Lib.hid (fun W h (hi:In W h) (hc:ah pc L s h)=>hfull.out pc L s C _ _ _ HR.out ea eb ed ef HE.out W h hi hc)
 clear hfull
 generalize (ea:Int)+eb+ed+ef=n at*
 generalize s.Zy ea eb ed ef=s' at*
 cases hmv:s.aG<;>by_cases hp:s.phase=0
 all_goals
  rw[hmv]at k21
  simp only[hmv,if_true,if_false,Bool.false_eq_true]at HM
  simp only[hp,if_true,if_false]at HJ
  first
   |rw[hp]at k20
   |skip
  go_wp2_with(first
   | (go_at_call 31;refine Calls.mono (HF.out _ _ U5.out.au.tail.tail C5.out) ?_;rintro e w6 ⟨rfl,h6,c6,u6⟩;have U6:=Lib.hid (aj.dP (x:=[_,_]) U5.out u6);have C6:=Lib.hid c6;clear u6 c6)
   | (go_at_call 32;refine Calls.mono (hst.out _ _ _ _ HT2.out.Vu _ _ U6.out.au.tail C6.out) ?_;rintro e w7 ⟨rfl,h7,c7,u7⟩;have U7:=aj.dP (x:=[_]) U6.out u7;have C7:=Lib.hid c7;clear u7 c7;have hm:=HM.out;have hj:=HJ.out;generalize s'.Zr=T2 at*;have U8:=Lib.hid (U7.alloc' (.cells (statCells T2) 61 (0,0)));obtain⟨_,_,_,z3,z4,_⟩:=Zq (d:=T2) U8.out.au.head;obtain⟨adu,adv⟩:=ah.vars (x:=[_,_,_]) C7.out U8.out.au;rw[HP.out]at adu;rw[HV.out]at adv;rw[hm]at z3;rw[hj]at z4;clear hm hj;simp only[statCells]at z3 z4 U8 adu adv;simp only[statCells];clear U7))
  go_ret
  exact⟨by first|rfl|trivial,U8.out.forget (List.nil_sublist _)⟩
end Go.Proofs.YtibemcgdmembeaaGreat
namespace Go.Proofs.YtibemcgdmembeaaGreat
open Go.ChangeShapes Go.WideShapes Go.ChangeAt Go.RowKit
theorem aaA(os:Os)(started:os.Started)(H:Type)(enc:TypeId×Value->H):
  ReturnsInHanded {} Tryz.checked os 9 .any (Rows.calmOnceSpec.pre6 enc Tryz.prog Tryz.f9 Rows.calmOnceRow.domain false) (Rows.calmOnceSpec.post enc Tryz.prog Tryz.f9 false true false false):=by
 refine returnsInHanded_of_change (C:=Tryz.checked) Tryz.own started (by kernel_rfl) Tryz.func9
  (ChangeSpec.witness6 (enc:=enc) (C:=Tryz.checked) false ⟨#[],#[.int .u8 0, .int .u8 0, .int .u8 0, .int .u8 0, .slice none 0 0],[]⟩ 8 (by kernel_rfl) (by kernel_rfl) (by kernel_rfl) (by kernel_rfl)) ?_
 intro W base args ds gs before hval0 hW hcnd _
 have hval: ∀(j:Nat) t v,Tryz.f9.params[j]? =some t->args[j]? =some v->Value.okWide Tryz.prog W .any base t v:=hval0
 have hW':=hW
 obtain⟨p,q,hA0,hV,rfl,hfz,hnd⟩:=hW
 have hA:DataW.TrodAll enc Tryz.prog W 0 (fun _=>true) true Tryz.f9.params.toList args.toList ds p:=hA0
 rw[Tryz.params9]at hA hval
 obtain⟨v0,vs0,d0,ds0,p0,q0,hargs,rfl,rfl,h0,r0⟩:=trodAll_cons hA
 obtain⟨v1,vs1,d1,ds1,p1,q1,rfl,rfl,rfl,h1,r1⟩:=trodAll_cons r0
 obtain⟨v2,vs2,d2,ds2,p2,q2,rfl,rfl,rfl,h2,r2⟩:=trodAll_cons r1
 obtain⟨v3,vs3,d3,ds3,p3,q3,rfl,rfl,rfl,h3,r3⟩:=trodAll_cons r2
 obtain⟨v4,vs4,d4,ds4,p4,q4,rfl,rfl,rfl,h4,r4⟩:=trodAll_cons r3
 obtain⟨rfl,rfl,rfl⟩:=trodAll_nil r4
 obtain rfl:args=#[v0,v1,v2,v3,v4]:=by cases args;simp_all
 obtain⟨rfl,rfl⟩:=trodVars_none hV
 obtain⟨a0,rfl,rfl,rfl,w0⟩:=open_int Tryz.underlying5 (hval 0 5 v0 rfl rfl) h0
 obtain⟨a1,rfl,rfl,rfl,w1⟩:=open_int Tryz.underlying5 (hval 1 5 v1 rfl rfl) h1
 obtain⟨a2,rfl,rfl,rfl,w2⟩:=open_int Tryz.underlying5 (hval 2 5 v2 rfl rfl) h2
 obtain⟨a3,rfl,rfl,rfl,w3⟩:=open_int Tryz.underlying5 (hval 3 5 v3 rfl rfl) h3
 have k4:=h4
 have lt4: ∀x∈p4,x.block<W.heap.size:=by obtain⟨m,hm⟩:=k4;exact DataW.trod_lt m _ _ _ hm
 obtain⟨a4,w4⟩:=Ky (hval 4 24 v4 rfl rfl) h4
 clear hA0 hval0
 refine(abb a0 a1 a2 a3 v4 a4 (LJ w0) (LJ w1) (LJ w2) (LJ w3) w4).mono fun e W' ⟨he,hu⟩=> ?_
 subst he
 exact⟨_,rfl,zQ (pv:=[]) hW' (fun _ _ _=>trodAll_cons_mk (shut_bool Tryz.underlying4 _) trodAll_mk0) (trodAll_cons_mk (shut_int Tryz.underlying5 w0) (trodAll_cons_mk (shut_int Tryz.underlying5 w1) (trodAll_cons_mk (shut_int Tryz.underlying5 w2) (trodAll_cons_mk (shut_int Tryz.underlying5 w3) (trodAll_cons_mk (Below.trod Tryz.laidOut (by kernel_rfl) (of_decide_eq_true (by kernel_rfl)) k4 hu.below lt4) trodAll_mk0))))) (fun _ _=>rfl) rfl
  (hu.below.frame _)⟩
theorem calmOnce_holds:Rows.CalmOnceSaid:=
 OpenClaim.holds_of_wide 9 Tryz.f9 rfl rfl rfl rfl rfl rfl rfl ⟨rfl,rfl,rfl,rfl,rfl⟩ rfl rfl rfl rfl rfl (by kernel_rfl) Tryz.func9 (by kernel_rfl)
  (of_decide_eq_true (by kernel_rfl)) (by unfold Func.isWrapper;first|(rw[if_pos (by decide+kernel)];kernel_rfl)|(rw[if_neg (by decide+kernel)];exact⟨rfl,rfl⟩))
  (fun os started H enc _=>aaA os started H enc)
#print axioms calmOnce_holds
end Go.Proofs.YtibemcgdmembeaaGreat
