/- CalmEmpty of package tilthlaw21 answers true: the given statement. Conditions: none. -/
import Derived.Test.YtibemcgdmembeaaGreatRows
import Derived.Test.YtibemcgdmembeaaGreatZ21
import Derived.Test.YtibemcgdmembeaaGreatZP
import Derived.Test.YtibemcgdmembeaaGreatZJ
import Derived.Test.YtibemcgdmembeaaGreatZL
set_option linter.unusedVariables false
set_option linter.unusedSimpArgs false
set_option maxRecDepth 100000
set_option maxHeartbeats 4000000
namespace Go.Proofs.YtibemcgdmembeaaGreat
open Go.RowKit
theorem clear_rel{s:af}{c:gX}{g:a_}(R:lG s c g){k:Nat}(h: ∀j:Nat,j<k->g.hs.getD j 0=0): ∃g',lG (jS s ⟨6,k,0,0,0⟩) c g'/\g'.nodes.length=g.nodes.length/\ ∀j:Nat,j<k+1->g'.hs.getD j 0=0:=by
 have r:=((rel_step R ⟨6,k,0,0,0⟩).2 (fun h=>absurd (show(6:Int)=1 from h.1) (by decide))).1
 refine⟨_,r,rfl,fun j hj=> ?_⟩
 show(bP g.hs (k:Int) 0).getD j 0=0
 by_cases hl:j<g.hs.length
 ·rw[zD j hl]
  split
  ·rfl
  ·exact h j (by omega)
 ·rw[List.getD_eq_getElem?_getD,List.getElem?_eq_none (by rw[nS];omega)]
  rfl
theorem rel_hlen{s:af}{c:gX}{g:a_}(R:lG s c g):(g.hs.length:Int)=c.handles:=by
 obtain⟨cur,az,K,loc,G,_⟩:=R.good
 rw[G.rep.hl]
 exact R.tied.tl
theorem full_empty{s s':af}{c:gX}{g:a_}(F:abQ s s' c g)(h: ∀j:Nat,(j:Int)<c.handles->g.hs.getD j 0=0):s'.Zr.fG=0/\s'.Zr.old=0/\s'.Zr.free=c.pages*c.page/\ (lF s'.o.pages:Int)=c.pages:=by
 obtain⟨t1,t2,_,_,_,_,t7⟩:=aaP F
 obtain⟨cur,K,loc,G,T,hR⟩:=F.tight
 have hl:=rel_hlen F.rel
 have hno: ∀n,¬Reach (gN g) g.hs n:=by
  intro n hn
  induction hn with
  |hd hm h0=>
   obtain⟨j,hj,e⟩:=List.getElem_of_mem hm
   have:=h j (by omega)
   rw[List.getD_eq_getElem?_getD,List.getElem?_eq_getElem hj]at this
   exact h0 (e.symm.trans this)
  |ref _ _ _ ih=>exact ih
 have hc:cur=[]:=by
  cases cur with
  |nil=>rfl
  |cons a l=>
   obtain⟨n,hn,_⟩:=T a (.inl (List.mem_cons_self ..))
   exact absurd (hR n hn) (hno n)
 have ho: ∀a,s'.o.aH a=none:=by
  intro a
  cases hz:s'.o.aH a with
  |none=>rfl
  |some z=>
   obtain⟨n,hn,_⟩:=T a (.inr (by rw[hz];rfl))
   exact absurd (hR n hn) (hno n)
 have hy:s'.y.cu=0:=by
  have:=G.inv.lay.rc
  rw[hc]at this
  simp only[ig]at this
  omega
 have hu:s'.o.used=0:=by
  obtain⟨_,a2,a3⟩:=acL G.inv.lay.ov
  have:s'.o.allL s'.o.pages.length=[]:=by
   cases hq:s'.o.allL s'.o.pages.length with
   |nil=>rfl
   |cons a l=>
    have:=(a2 a).1 (by rw[hq];exact List.mem_cons_self ..)
    rw[ho a]at this
    cases this
  rw[a3,this]
  rfl
 have hf: ∀l:List bC,(∀g∈l,g.kind=0)->lF l=l.length:=by
  intro l
  induction l with
  |nil=>intro _;rfl
  |cons g l ih=>
   intro h
   rw[lF,if_pos (h g (List.mem_cons_self ..)),ih (fun g hg=>h g (List.mem_cons_of_mem _ hg)),List.length_cons]
   omega
 have hp:=adk G.inv.lay.ov F.rel.tied.od.pg ho
 refine⟨by rw[t1,hy],by rw[t2,hu],by rw[t7,hu];omega, ?_⟩
 rw[hf _ (fun g hg=>by
  obtain⟨n,hn,e⟩:=List.getElem_of_mem hg
  exact hp n g (by rw[List.getElem?_eq_getElem hn,e]))]
 rw[G.inv.lay.ol,F.rel.tied.cf]
theorem clear_wf(k:Nat)(h:(k:Int)<=1000):lM.Xy ⟨6,k,0,0,0⟩:=
 ⟨⟨show-9223372036854775808<=(k:Int) by omega,show(k:Int)<=9223372036854775807 by omega⟩,⟨show-9223372036854775808<=(0:Int) by decide,show(0:Int)<=9223372036854775807 by decide⟩,⟨show-9223372036854775808<=(0:Int) by decide,show(0:Int)<=9223372036854775807 by decide⟩,⟨show(0:Int)<=0 by decide,show(0:Int)<18446744073709551616 by decide⟩⟩
def EmptyL(ph pc bg:Nat)(L:aX)(C:gX)(k:Nat)(w wr:World):Prop:= ∃s g h,lG s C g/\g.nodes.length<=151/\ (∀j:Nat,j<k->g.hs.getD j 0=0)/\ah pc L s h/\aj [] ((bg, .cells (aN C) 23 (0,0))::(ph,aC pc)::h) w wr
theorem calmEmpty_any(a b c d:Int)(sv:Value)(l:List lM)(ha:U8 a)(hb:U8 b)(hc:U8 c)(hd:U8 d){w:World}(hs:xy w sv l):
  Calls Tryz.prog 7 #[.int .u8 a, .int .u8 b, .int .u8 c, .int .u8 d,sv] w fun e w'=>e= .returned (.bool true)/\aj [] [] w w':=by
 have hr:=Lib.hid (VF a b c d sv l ha hb hc hd hs)
 have hcore:=Lib.hid (fun ph pc W hb=>ve ph pc W hb)
 have hst:=Lib.hid (fun ph pc L s (Z:af.FO s) W h (hi:In W ((ph,aC pc)::h)) (hc:ah pc L s h)=>ZZ ph pc L Z W h hi hc)
 have hfull:=Lib.hid (fun pc L s c N hs m (T:dM s c N hs m) a b d f (E:ZJ s a b d f) W h (hi:In W h) (hc:ah pc L s h)=>aag pc L T a b d f E W h hi hc)
 have hfree:=Lib.hid (fun pc L s W h (hi:In W h) (hc:ah pc L s h)=>JX pc L s W h hi hc)
 have QN:=Lib.hid (fun ph pc L s C g (R:lG s C g) x (hw:lM.Xy x) W h (hi:In W ((ph,aC pc)::h)) (hc:ah pc L s h)=>mQ ph pc L R.tied x hw W h hi hc)
 clear ha hb hc hd hs
 simp only[ptr]at hcore hfull
 generalize fO a b c d=C at*
 go_enter Tryz.func7,Tryz.ntmps7
 go_wp2_with(first
  | (go_at_call 28;refine Calls.mono hr.out ?_;rintro e w1 ⟨ph,pc,L,s,g,h1,rfl,R,hn,c1,u1⟩;have U1:=Lib.hid u1;have C1:=Lib.hid c1;have HR:=Lib.hid R;clear u1 c1 R hr)
  | (go_at_call 29;refine Calls.mono (ZT _) ?_;rintro e w2 ⟨rfl,u2⟩;have U2:=Lib.hid (U1.out.dK u2);clear u2 U1)
  | (go_at_call 23;refine Calls.mono (hcore.out _ _ _ U2.out.au.head) ?_;rintro e wa ⟨rfl,XE⟩;obtain rfl:=XE.symm;clear XE;obtain⟨t0,t1,t2,t3,t4,t5,t6,t7,t8,t9,t10,t11,t12,_,_⟩:=C1.out.Xg U2.out.au.tail HR.out.tied.cf;have U3:=Lib.hid (U2.out.alloc' (.cells (aN C) 23 (0,0)))))
 have HS:Hid (EmptyL ph pc w2.heap.size L C 0 w (w2.alloc (.cells (aN C) 23 (0,0)))):=Lib.hid ⟨s,g,h1,HR.out,hn,fun j hj=>by omega,C1.out,U3.out⟩
 have hH:=HR.out.tied.fits
 have hh1:=hH.h1
 have hh2:=hH.h2
 have hpp:=gX.pU hH.small
 have hmul:IntKind.i64.wrap (C.pages*C.page)=C.pages*C.page:=IntWalk.i64_in _ (by omega)
 generalize w2.heap.size=bg at*
 simp only[aN]at HS
 clear U3 U2 C1 HR t0 t1 t2 t3 t4 t5 t6 t7 t8 t9 t10 t11 t12 hn hH
 generalize w2.alloc _=ax at*
 go_loopw [13] (fun q wr=> ∃(k:Nat),(k:Int)<=C.handles/\q= .int .i64 k/\Hid (EmptyL ph pc bg L C k w wr)) (fun q _=>(C.handles-intOf q).toNat)
 case atStart=>exact⟨0,by omega,rfl,HS⟩
 case round=>
  obtain⟨k,hk,rfl,HW⟩:=hrel
  obtain⟨s,g,h,hR,hn,hz,hC,hU⟩:=HW.out
  clear HS
  have HR:=Lib.hid hR
  have HC:=Lib.hid hC
  have HU:=Lib.hid hU
  have HZ:=Lib.hid hz
  have g0:wr.cell? ⟨bg,0,none⟩=some (.int .i64 C.handles):=cell_of hU.au.head 0
  clear hR hC hU hz HW
  by_cases hlt:(k:Int)<C.handles
  ·have hDo:=Lib.hid (fun W h (hi:In W ((ph,aC pc)::h)) (hc:ah pc L s h)=>QN.out ph pc L s C g HR.out ⟨6,k,0,0,0⟩ (clear_wf k (by omega)) W h hi hc)
   obtain⟨g',r1,r2,r3⟩:=clear_rel HR.out HZ.out
   have R1:=Lib.hid r1
   have R3:=Lib.hid r3
   clear r1 r3
   generalize jc s ⟨6,k,0,0,0⟩=A at*
   generalize jS s ⟨6,k,0,0,0⟩=s' at*
   obtain⟨A1,A2,A3,A4⟩:=A
   simp only[ak,ai]at hDo
   go_wp2_with(go_at_call 19;refine Calls.mono (hDo.out _ _ HU.out.au.tail HC.out) ?_;rintro e w4 ⟨rfl,h4,c4,u4⟩;have C4:=Lib.hid c4;have U4:=Lib.hid (aj.dP (x:=[_]) HU.out u4);clear u4 c4)
   go_roundw
   case rel=>exact⟨k+1,by omega,by go_num,Lib.hid ⟨s',g',h4,R1.out,by omega,R3.out,C4.out,U4.out⟩⟩
   case measure=>simp[intOf];omega
  ·obtain⟨ea,eb,ed,ef,E,F⟩:=acM HR.out
   have HF1:=Lib.hid (fun W h (hi:In W h) (hc:ah pc L s h)=>hfull.out pc L s C _ _ _ HR.out.tied ea eb ed ef E W h hi hc)
   have HF:=Lib.hid F
   clear E F hfull QN
   generalize s.Zy ea eb ed ef=s' at*
   obtain⟨e1,e2,e3,e4⟩:=full_empty HF.out (fun j hj=>HZ.out j (by omega))
   have HE:=Lib.hid (And.intro e1 (And.intro e2 e3))
   clear e1 e2 e3
   obtain⟨n,hn⟩: ∃n:Int,n=(ea:Int)+eb+ed+ef:=⟨_,rfl⟩
   rw[<-hn]at HF1
   clear hn
   have EY:=Lib.hid (fun W h (hi:In W h) (hc:ah pc L s' h)=>hfree.out pc L s' W h hi hc)
   rw[e4]at EY
   clear e4 hfree
   go_wp2_with(first
    | (go_at_call 23;refine Calls.mono (hcore.out _ _ _ HU.out.au.tail.head) ?_;rintro e wb ⟨rfl,XE⟩;obtain rfl:=XE.symm;clear XE)
    | (go_at_call 31;refine Calls.mono (HF1.out _ _ HU.out.au.tail.tail HC.out) ?_;rintro e w4 ⟨rfl,h4,c4,u4⟩;have U4:=Lib.hid (aj.dP (x:=[_,_]) HU.out u4);have C4:=Lib.hid c4;clear u4 c4)
    | (go_at_call 32;refine Calls.mono (hst.out _ _ _ _ HF.out.rel.tied.Vu _ _ U4.out.au.tail C4.out) ?_;rintro e w5 ⟨rfl,h5,c5,u5⟩;have U5:=aj.dP (x:=[_]) U4.out u5;have C5:=Lib.hid c5;clear u5 c5;have hE:=HE.out;generalize s'.Zr=T1 at*;have U6:=Lib.hid (U5.alloc' (.cells (statCells T1) 61 (0,0)));clear HE;obtain⟨T10,T11,T12,T13,T14,T15,T16,T17⟩:=T1;obtain⟨q5,q6,q7⟩:=hE;simp only at q5 q6 q7;subst q5 q6 q7;simp only[statCells]at U6;simp only[statCells];clear U5))
   have U7:=Lib.hid U6.out.drew'
   have C5':=C5
   obtain⟨_,_,_,_,_,_,_,_,_,_,_,_,_,_,po9⟩:=C5.out.Xg U7.out.au.tail.tail.tail HF.out.rel.tied.cf
   have hb5:=cell_of U7.out.au.head 5
   have hb6:=cell_of U7.out.au.head 6
   have hb7:=cell_of U7.out.au.head 7
   have hc2:=cell_of U7.out.au.tail.head 2
   have hc3:=cell_of U7.out.au.tail.head 3
   simp only[aN,List.getElem?_toArray,List.getElem?_cons_succ,List.getElem?_cons_zero]at hb5 hb6 hb7 hc2 hc3
   generalize w5.heap.size=bs at*
   have wO:=And.intro hb5 (And.intro hb6 (And.intro hb7 (And.intro hc2 (And.intro hc3 po9))))
   clear hb5 hb6 hb7 hc2 hc3 po9 U6 U4 C4 HF1 HU HC HZ HR g0
   refine wp_region_held_drew (S:=fun w'=>w'.cell? ⟨bs,5,none⟩=some (.int .i64 0)/\w'.cell? ⟨bs,6,none⟩=some (.int .i64 0)/\w'.cell? ⟨bs,7,none⟩=some (.int .i64 (C.pages*C.page))/\w'.cell? ⟨bg,2,none⟩=some (.int .i64 C.pages)/\w'.cell? ⟨bg,3,none⟩=some (.int .i64 C.page)/\w'.cell? ⟨pc,15,none⟩=some (.pointer (some ⟨L.po,0,none⟩))) (by kernel_rfl) (wO) (fun hHeld=> ?_)
   refine tk 0 ?_
   refine tk 1 ?_
   refine tk 2 ?_
   refine tk 3 ?_
   refine tk 4 ?_
   refine tk 5 ?_
   refine tk 6 ?_
   refine tk 7 ?_
   refine tk 8 ?_
   refine tk 9 ?_
   refine tk 10 ?_
   refine tk 11 ?_
   refine tk 12 ?_
   refine tk 13 ?_
   refine tk 14 ?_
   refine tk 15 ?_
   refine tk 16 ?_
   refine tk 17 ?_
   refine tk 18 ?_
   refine tk 19 ?_
   refine tk 25 ?_
   refine tk 26 ?_
   try simp only[Act.put,List.setIfInBounds_toArray,List.set_cons_zero,List.set_cons_succ]
   refine wpAnyH_ready (rs:=[20]) (by kernel_rfl) (by simp) ?_
   refine AllReadyH.cons (o:=_) rfl (fun K hK=> ?_) AllReadyH.nil
   go_simp
   go_wp2_with(go_at_call 23;refine Calls.mono (hcore.out _ _ _ U7.out.au.tail.tail.head) ?_;rintro e wc ⟨rfl,XE⟩;obtain rfl:=XE.symm;clear XE)
   try go_wp2_with fail
   refine hK.out _ _ (wO) (fun hHeld=> ?_)
   clear hK K
   try simp only[Act.put,List.setIfInBounds_toArray,List.set_cons_zero,List.set_cons_succ]
   refine tk 21 ?_
   refine tk 22 ?_
   refine tk 23 ?_
   try simp only[Act.put,List.setIfInBounds_toArray,List.set_cons_zero,List.set_cons_succ]
   refine wpAnyH_ready (rs:=[24]) (by kernel_rfl) (by simp) ?_
   refine AllReadyH.cons (o:=_) rfl (fun K hK=> ?_) AllReadyH.nil
   go_simp
   go_wp2_with(go_at_call 33;refine Calls.mono (EY.out _ _ U7.out.au.tail.tail.tail C5.out) ?_;rintro e wd ⟨rfl,XE⟩;obtain rfl:=XE.symm;clear XE)
   try go_wp2_with fail
   refine hK.out _ _ (wO) (fun hHeld=> ?_)
   clear hK K
   try simp only[Act.put,List.setIfInBounds_toArray,List.set_cons_zero,List.set_cons_succ]
   refine tk 27 ?_
   refine tk 28 ?_
   refine tk 29 ?_
   try simp only[Act.put,List.setIfInBounds_toArray,List.set_cons_zero,List.set_cons_succ]
   refine wpAnyH_done (by kernel_rfl) ?_ _
   go_simp
   go_wp2
   go_ret
   exact⟨by first|rfl|trivial,U7.out.forget (List.nil_sublist _)⟩
end Go.Proofs.YtibemcgdmembeaaGreat
namespace Go.Proofs.YtibemcgdmembeaaGreat
open Go.ChangeShapes Go.WideShapes Go.ChangeAt Go.RowKit
theorem calmEmpty_lifted(os:Os)(started:os.Started)(H:Type)(enc:TypeId×Value->H):
  ReturnsInHanded {} Tryz.checked os 7 .any (Rows.calmEmptySpec.pre6 enc Tryz.prog Tryz.f7 Rows.calmEmptyRow.domain false) (Rows.calmEmptySpec.post enc Tryz.prog Tryz.f7 false true false false):=by
 refine returnsInHanded_of_change (C:=Tryz.checked) Tryz.own started (by kernel_rfl) Tryz.func7
  (ChangeSpec.witness6 (enc:=enc) (C:=Tryz.checked) false ⟨#[],#[.int .u8 0, .int .u8 0, .int .u8 0, .int .u8 0, .slice none 0 0],[]⟩ 8 (by kernel_rfl) (by kernel_rfl) (by kernel_rfl) (by kernel_rfl)) ?_
 intro W base args ds gs before hval0 hW hcnd _
 have hval: ∀(j:Nat) t v,Tryz.f7.params[j]? =some t->args[j]? =some v->Value.okWide Tryz.prog W .any base t v:=hval0
 have hW':=hW
 obtain⟨p,q,hA0,hV,rfl,hfz,hnd⟩:=hW
 have hA:DataW.TrodAll enc Tryz.prog W 0 (fun _=>true) true Tryz.f7.params.toList args.toList ds p:=hA0
 rw[Tryz.params7]at hA hval
 obtain⟨v0,vs0,d0,ds0,p0,q0,hargs,rfl,rfl,h0,r0⟩:=trodAll_cons hA
 obtain⟨v1,vs1,d1,ds1,p1,q1,rfl,rfl,rfl,h1,r1⟩:=trodAll_cons r0
 obtain⟨v2,vs2,d2,ds2,p2,q2,rfl,rfl,rfl,h2,r2⟩:=trodAll_cons r1
 obtain⟨v3,vs3,d3,ds3,p3,q3,rfl,rfl,rfl,h3,r3⟩:=trodAll_cons r2
 obtain⟨v4,vs4,d4,ds4,p4,q4,rfl,rfl,rfl,h4,r4⟩:=trodAll_cons r3
 obtain⟨rfl,rfl,rfl⟩:=trodAll_nil r4
 obtain rfl:args=#[v0,v1,v2,v3,v4]:=by cases args;simp_all
 obtain⟨rfl,rfl⟩:=trodVars_none hV
 obtain⟨a0,rfl,rfl,rfl,w0⟩:=open_int Tryz.underlying5 (hval 0 5 v0 rfl rfl) h0
 obtain⟨a1,rfl,rfl,rfl,w1⟩:=open_int Tryz.underlying5 (hval 1 5 v1 rfl rfl) h1
 obtain⟨a2,rfl,rfl,rfl,w2⟩:=open_int Tryz.underlying5 (hval 2 5 v2 rfl rfl) h2
 obtain⟨a3,rfl,rfl,rfl,w3⟩:=open_int Tryz.underlying5 (hval 3 5 v3 rfl rfl) h3
 have k4:=h4
 have lt4: ∀x∈p4,x.block<W.heap.size:=by obtain⟨m,hm⟩:=k4;exact DataW.trod_lt m _ _ _ hm
 obtain⟨a4,w4⟩:=Ky (hval 4 24 v4 rfl rfl) h4
 clear hA0 hval0
 refine(calmEmpty_any a0 a1 a2 a3 v4 a4 (LJ w0) (LJ w1) (LJ w2) (LJ w3) w4).mono fun e W' ⟨he,hu⟩=> ?_
 subst he
 exact⟨_,rfl,zQ (pv:=[]) hW' (fun _ _ _=>trodAll_cons_mk (shut_bool Tryz.underlying4 _) trodAll_mk0) (trodAll_cons_mk (shut_int Tryz.underlying5 w0) (trodAll_cons_mk (shut_int Tryz.underlying5 w1) (trodAll_cons_mk (shut_int Tryz.underlying5 w2) (trodAll_cons_mk (shut_int Tryz.underlying5 w3) (trodAll_cons_mk (Below.trod Tryz.laidOut (by kernel_rfl) (of_decide_eq_true (by kernel_rfl)) k4 hu.below lt4) trodAll_mk0))))) (fun _ _=>rfl) rfl
  (hu.below.frame _)⟩
theorem calmEmpty_holds:Rows.CalmEmptySaid:=
 OpenClaim.holds_of_wide 7 Tryz.f7 rfl rfl rfl rfl rfl rfl rfl ⟨rfl,rfl,rfl,rfl,rfl⟩ rfl rfl rfl rfl rfl (by kernel_rfl) Tryz.func7 (by kernel_rfl)
  (of_decide_eq_true (by kernel_rfl)) (by unfold Func.isWrapper;first|(rw[if_pos (by decide+kernel)];kernel_rfl)|(rw[if_neg (by decide+kernel)];exact⟨rfl,rfl⟩))
  (fun os started H enc _=>calmEmpty_lifted os started H enc)
#print axioms calmEmpty_holds
end Go.Proofs.YtibemcgdmembeaaGreat
