/- WalkFewer of package tilthlaw19 answers true: the given statement. Conditions: none. -/
import Derived.Test.YtibemcgdmembeaaGreatRows
import Derived.Test.YtibemcgdmembeaaGreatZP
import Derived.Test.YtibemcgdmembeaaGreatZL
import Derived.Test.YtibemcgdmembeaaGreatZ19
set_option linter.unusedVariables false
set_option linter.unusedSimpArgs false
set_option maxRecDepth 100000
set_option maxHeartbeats 4000000
namespace Go.Proofs.YtibemcgdmembeaaGreat
open Go.RowKit
theorem sumI_mono{f g:Int->Int}: ∀{l:List Int},(∀a∈l,f a<=g a)->lY (l.map f)<=lY (l.map g)
 |[],_=>Int.le_refl _
 |a::l,h=>by
  have h1:=h a (List.mem_cons_self ..)
  have h2:=sumI_mono (fun b hb=>h b (List.mem_cons_of_mem _ hb))
  simp only[List.map_cons,lY]
  omega
theorem sum_sub{f:Int->Int}(hf: ∀a,0<=f a){l l':List Int}(n:l.Nodup)(n':l'.Nodup)(h: ∀a∈l',a∈l):lY (l'.map f)<=lY (l.map f)/\l'.length<=l.length:=by
 have p:(l.filter (fun a=>decide (a∈l'))).Perm l':=ZX (n.filter _) n' (fun a=>by
  rw[List.mem_filter,decide_eq_true_eq]
  exact⟨fun h=>h.2,fun ha=>⟨h a ha,ha⟩⟩)
 constructor
 ·rw[<-aa1 (p.map f),<-ZP]
  refine sumI_mono (fun a _=> ?_)
  split
  ·exact Int.le_refl _
  ·exact hf a
 ·rw[<-p.length_eq]
  exact List.length_filter_le _ _
theorem wYoung_nonneg(s:af)(a:Int):0<=s.oL a:=by
 have:=aA s.ws a
 unfold af.oL
 split<;>omega
theorem wOld_nonneg{s:af}(h:16<=s.C.page)(a:Int):0<=s.zS a:=by
 obtain⟨b1,b2,b3,b4,b5⟩:=aA s.ws a
 unfold af.zS
 split
 ·unfold zO
  split
  ·have:=fU (page:=s.C.page) (n:=(ag s.ws a).words) (by omega) (by omega) h
   exact Int.mul_nonneg (by omega) (by omega)
  ·have:=sD (ag s.ws a).words
   omega
 ·exact Int.le_refl _
section
variable{s:af}{c:gX}{cur az:List Int}{N:Int->dB}{hs:List Int}{K:Int->Prop}{loc:Int->Int}{m:Int}
theorem Good.live_reach(G:Good s cur az N hs K loc)(F:Nat): ∀n∈IL N hs F,Reach N hs n:=(G.reach.live F).2.1
theorem Reach.mono{hs':List Int}(h: ∀x∈hs',x=0∨x∈hs){n:Int}(r:Reach N hs' n):Reach N hs n:=by
 induction r with
 |hd hx h0=>exact .hd ((h _ hx).resolve_left h0) h0
 |ref _ hx h0 ih=>exact .ref ih hx h0
theorem reach_none(h: ∀j:Nat,j<hs.length->hs.getD j 0=0): ∀n,¬Reach N hs n:=by
 intro n hn
 induction hn with
 |hd hm h0=>
  obtain⟨j,hj,e⟩:=List.getElem_of_mem hm
  have:=h j hj
  rw[List.getD_eq_getElem?_getD,List.getElem?_eq_getElem hj]at this
  exact h0 (e.symm.trans this)
 |ref _ _ _ ih=>exact ih
theorem rel_hlenL{g:a_}(R:lG s c g):(g.hs.length:Int)=c.handles:=by
 obtain⟨cur,az,K,loc,G,_⟩:=R.good
 rw[G.rep.hl]
 exact R.tied.tl
def af.IL(s:af)(F:Nat):Nat:=(s.oQ F).length
def af.liveY(s:af)(F:Nat):Int:=lY ((s.oQ F).map s.oL)
def af.liveO(s:af)(F:Nat):Int:=lY ((s.oQ F).map s.zS)
theorem live_fewer{g:a_}(R:lG s c g){k:Nat}(h: ∀j:Nat,j<k->g.hs.getD j 0=0): ∃g',lG {s with t:=bP s.t k 0} c g'/\g'.nodes.length=g.nodes.length/\ (∀j:Nat,j<k+1->g'.hs.getD j 0=0)/\
  af.IL {s with t:=bP s.t k 0} (g.nodes.length+1)<=s.IL (g.nodes.length+1)/\af.liveY {s with t:=bP s.t k 0} (g.nodes.length+1)<=s.liveY (g.nodes.length+1)/\af.liveO {s with t:=bP s.t k 0} (g.nodes.length+1)<=s.liveO (g.nodes.length+1):=by
 have r:=((rel_step R ⟨6,k,0,0,0⟩).2 (fun h=>absurd (show(6:Int)=1 from h.1) (by decide))).1
 obtain⟨cur,az,K,loc,G,hk⟩:=R.good
 have G':=JM G (k:Int)
 obtain⟨e1,m1,n1⟩:=G.live (g.nodes.length+1)
 obtain⟨e2,m2,n2⟩:=G'.live (g.nodes.length+1)
 have inj: ∀{l:List Int},(∀m∈l,K m)->l.Nodup->(l.map loc).Nodup:=fun hl hn=>aaJ (fun a ha b hb h=>G.rep.inj a b (hl a ha) (hl b hb) h) hn
 have sub: ∀a∈af.oQ {s with t:=bP s.t k 0} (g.nodes.length+1),a∈s.oQ (g.nodes.length+1):=by
  intro a ha
  rw[e2]at ha
  obtain⟨n,hn,rfl⟩:=List.mem_map.1 ha
  rw[e1]
  refine List.mem_map_of_mem (acK (fun n hn=> ?_) n1 ((G'.live_reach _ n hn).mono (fun x hx=>(sV hx).symm)))
  have:=hk n (m1 n hn)
  omega
 have p:=R.tied.fits.g1
 have q:=fun f hf=>sum_sub (f:=f) hf (l:=s.oQ (g.nodes.length+1)) (l':=af.oQ {s with t:=bP s.t k 0} (g.nodes.length+1)) (by rw[e1];exact inj m1 n1) (by rw[e2];exact inj m2 n2) sub
 refine⟨_,r,rfl,fun j hj=> ?_,(q s.oL (wYoung_nonneg s)).2,(q s.oL (wYoung_nonneg s)).1,(q s.zS (wOld_nonneg (by rw[R.tied.cf];exact p))).1⟩
 show(bP g.hs (k:Int) 0).getD j 0=0
 by_cases hl:j<g.hs.length
 ·rw[zD j hl]
  split
  ·rfl
  ·exact h j (by omega)
 ·rw[List.getD_eq_getElem?_getD,List.getElem?_eq_none (by rw[nS];omega)]
  rfl
theorem live_none{g:a_}(R:lG s c g)(h: ∀j:Nat,(j:Int)<c.handles->g.hs.getD j 0=0)(F:Nat):s.IL F=0/\s.liveY F=0/\s.liveO F=0:=by
 obtain⟨cur,az,K,loc,G,hk⟩:=R.good
 obtain⟨e1,m1,n1⟩:=G.live F
 have hl:=rel_hlenL R
 have:IL (gN g) g.hs F=[]:=by
  cases hq:IL (gN g) g.hs F with
  |nil=>rfl
  |cons a l=>exact absurd (G.live_reach F a (by rw[hq];exact List.mem_cons_self ..)) (reach_none (fun j hj=>h j (by omega)) a)
 rw[this]at e1
 unfold af.IL af.liveY af.liveO
 rw[e1]
 exact⟨rfl,rfl,rfl⟩
theorem live_bound{g:a_}(R:lG s c g):s.IL (g.nodes.length+1)<=g.nodes.length:=by
 obtain⟨Ok,m1,m2,m3,m4,m5⟩:=yE R
 exact m2
end
theorem rel_wordsL(pc:Nat)(L:aX){s:af}{c:gX}{g:a_}(R:lG s c g)(hb:g.nodes.length<=1000000)(w:World)(h:Hp)(hi:In w h)(hc:ah pc L s h):
  Calls Tryz.prog 37 #[ptr pc] w fun e w'=>e= .returned (.tuple #[.int .i64 (s.liveY (g.nodes.length+1)), .int .i64 (s.liveO (g.nodes.length+1))])/\ ∃h',ah pc L s h'/\aj h h' w w':=by
 obtain⟨Ok,m1,m2,m3,m4,m5⟩:=yE R
 have hf:=R.tied.fits
 have h1:=hf.g1
 have h2:=hf.g2
 exact IW pc L s g.nodes.length hb Ok m1 _ rfl m2 (by rw[R.tied.cf];exact h1) (by rw[R.tied.cf];omega) w h hi hc
theorem rel_live(pc:Nat)(L:aX){s:af}{c:gX}{g:a_}(R:lG s c g)(hb:g.nodes.length<=1000000)(w:World)(h:Hp)(hi:In w h)(hc:ah pc L s h):
  Calls Tryz.prog 38 #[ptr pc] w fun e w'=> ∃ao cap h1 h2,e= .returned (.slice ao (s.IL (g.nodes.length+1)) cap)/\ah pc L s h2/\aj h (h1++h2) w w'/\ ∀W,In W h1->pK W (.slice ao (s.IL (g.nodes.length+1)) cap) (s.oQ (g.nodes.length+1)):=by
 obtain⟨Ok,m1,m2,m3,m4,m5⟩:=yE R
 refine(yF pc L s g.nodes.length hb Ok m1 w h hi hc).mono ?_
 rintro e w' ⟨v,h1,h2,rfl,s1,c1,u1⟩
 obtain⟨ao,cap,rfl,_⟩:=s1.shape
 exact⟨ao,cap,h1,h2,rfl,c1,u1,fun W hW=>⟨h1,s1,hW⟩⟩
end Go.Proofs.YtibemcgdmembeaaGreat
namespace Go.Proofs.YtibemcgdmembeaaGreat
open Go.RowKit
def FewerL(ph pc:Nat)(L:aX)(C:gX)(k n:Nat)(y o:Int)(w wr:World):Prop:= ∃s g h,lG s C g/\g.nodes.length<=151/\ (∀j:Nat,j<k->g.hs.getD j 0=0)/\n=s.IL (g.nodes.length+1)/\y=s.liveY (g.nodes.length+1)/\o=s.liveO (g.nodes.length+1)/\ah pc L s h/\aj [] ((ph,aC pc)::h) w wr
theorem walkFewer_any(a b c d:Int)(sv:Value)(l:List lM)(ha:U8 a)(hb:U8 b)(hc:U8 c)(hd:U8 d){w:World}(hs:xy w sv l):
  Calls Tryz.prog 12 #[.int .u8 a, .int .u8 b, .int .u8 c, .int .u8 d,sv] w fun e w'=>e= .returned (.bool true)/\aj [] [] w w':=by
 have hr:=Lib.hid (VE a b c d sv l ha hb hc hd hs)
 have hcore:=Lib.hid (fun ph pc W hb=>ve ph pc W hb)
 have nP:=Lib.hid (fun pc L s c g (R:lG s c g) (hb:g.nodes.length<=1000000) W h (hi:In W h) (hc:ah pc L s h)=>rel_wordsL pc L R hb W h hi hc)
 have hlive:=Lib.hid (fun pc L s c g (R:lG s c g) (hb:g.nodes.length<=1000000) W h (hi:In W h) (hc:ah pc L s h)=>rel_live pc L R hb W h hi hc)
 have hclear:=Lib.hid (fun pc L s i W h (hi:In W h) (hc:ah pc L s h)=>Jc pc L s i W h hi hc)
 clear ha hb hc hd hs
 simp only[ptr]at hcore nP hlive hclear
 generalize fO a b c d=C at*
 go_enter Tryz.func12,Tryz.ntmps12
 go_wp2_with(first
  | (go_at_call 39;refine Calls.mono hr.out ?_;rintro e w1 ⟨ph,pc,L,s,g,h1,rfl,R,hn,c1,u1⟩;have U1:=Lib.hid u1;have C1:=Lib.hid c1;have HR:=Lib.hid R;clear u1 c1 R hr)
  | (go_at_call 35;refine Calls.mono (F9 _) ?_;rintro e w2 ⟨rfl,u2⟩;have U2:=Lib.hid (U1.out.dK u2);clear u2 U1)
  | (go_at_call 23;refine Calls.mono (hcore.out _ _ _ U2.out.au.head) ?_;rintro e wa ⟨rfl,XE⟩;obtain rfl:=XE.symm;clear XE)
  | (go_at_call 38;refine Calls.mono (hlive.out _ _ _ _ _ HR.out (by omega) _ _ U2.out.au.tail C1.out) ?_;rintro e w3 ⟨ao,cap,hx,h3,rfl,c3,u3,_⟩;have U3:=Lib.hid ((aj.iL U2.out u3).forget ((List.sublist_append_right hx h3).cons_cons (ph,aC pc)));have C3:=Lib.hid c3;clear u3 c3)
  | (go_at_call 37;refine Calls.mono (nP.out _ _ _ _ _ HR.out (by omega) _ _ U3.out.au.tail C3.out) ?_;rintro e w4 ⟨rfl,h4,c4,u4⟩;have U4:=Lib.hid (aj.iL U3.out u4);have C4:=Lib.hid c4;clear u4 c4))
 have HS:Hid (FewerL ph pc L C 0 (s.IL (g.nodes.length+1)) (s.liveY (g.nodes.length+1)) (s.liveO (g.nodes.length+1)) w w4):=Lib.hid ⟨s,g,h4,HR.out,hn,fun j hj=>by omega,rfl,rfl,rfl,C4.out,U4.out⟩
 have hH:=HR.out.tied.fits
 have hh1:=hH.h1
 have hh2:=hH.h2
 generalize s.IL (g.nodes.length+1)=n0 at*
 generalize s.liveY (g.nodes.length+1)=y0 at*
 generalize s.liveO (g.nodes.length+1)=o0 at*
 clear U4 U3 U2 C4 C3 C1 HR hn hH
 go_loopw [13,14,15,16] (fun la yy oo q wr=> ∃(k n:Nat) (y o:Int),(k:Int)<=C.handles/\la= .int .i64 n/\yy= .int .i64 y/\oo= .int .i64 o/\q= .int .i64 k/\Hid (FewerL ph pc L C k n y o w wr)) (fun _ _ _ q _=>(C.handles-intOf q).toNat)
 case atStart=>exact⟨0,n0,y0,o0,by omega,rfl,rfl,rfl,rfl,HS⟩
 case round=>
  obtain⟨k,n,y,o,hk,rfl,rfl,rfl,rfl,HW⟩:=hrel
  obtain⟨s,g,h,hR,hn,hz,e1,e2,e3,hC,hU⟩:=HW.out
  clear HS
  have HR:=Lib.hid hR
  have HC:=Lib.hid hC
  have HU:=Lib.hid hU
  have HZ:=Lib.hid hz
  obtain⟨t0,_,_,_,_,_,_,_,_,_,_,_,_,_,_⟩:=hC.Xg hU.au.tail hR.tied.cf
  have HE:=Lib.hid (And.intro e1 (And.intro e2 e3))
  clear hR hC hU hz HW e1 e2 e3
  by_cases hlt:(k:Int)<C.handles
  ·obtain⟨g',r1,r2,r3,f1,f2,f3⟩:=live_fewer HR.out HZ.out
   have hb2:=live_bound r1
   rw[r2]at hb2
   have R1:=Lib.hid r1
   have R3:=Lib.hid r3
   have hcl:=Lib.hid (fun W h (hi:In W h) (hc:ah pc L s h)=>hclear.out pc L s k W h hi hc)
   clear r1 r3 hclear
   generalize ({s with t:=bP s.t k 0}:af)=s' at*
   rw[<-HE.out.1,<-r2]at f1
   rw[<-HE.out.2.1,<-r2]at f2
   rw[<-HE.out.2.2,<-r2]at f3
   have hlv:=Lib.hid (fun W h (hi:In W h) (hc:ah pc L s' h)=>hlive.out pc L s' C g' R1.out (by omega) W h hi hc)
   have hwd:=Lib.hid (fun W h (hi:In W h) (hc:ah pc L s' h)=>nP.out pc L s' C g' R1.out (by omega) W h hi hc)
   clear hlive nP
   have HE2:Hid (s'.IL (g'.nodes.length+1)=s'.IL (g'.nodes.length+1)/\s'.liveY (g'.nodes.length+1)=s'.liveY (g'.nodes.length+1)/\s'.liveO (g'.nodes.length+1)=s'.liveO (g'.nodes.length+1)):=Lib.hid ⟨rfl,rfl,rfl⟩
   obtain⟨n',hn'⟩: ∃n',n'=s'.IL (g'.nodes.length+1):=⟨_,rfl⟩
   obtain⟨y',hy'⟩: ∃y',y'=s'.liveY (g'.nodes.length+1):=⟨_,rfl⟩
   obtain⟨o',ho'⟩: ∃o',o'=s'.liveO (g'.nodes.length+1):=⟨_,rfl⟩
   rw[<-hn']at f1 hlv
   rw[<-hy']at f2 hwd
   rw[<-ho']at f3 hwd
   have HN:=Lib.hid (And.intro hn' (And.intro hy' ho'))
   have q1: ¬((n:Int)<n'):=by omega
   have q2: ¬(y<y'):=by omega
   have q3: ¬(o<o'):=by omega
   generalize bI s.t k=te at*
   clear hn' hy' ho' HE2 hb2 f1 f2 f3 HE HZ
   go_wp2_with(first
    | (go_at_call 40;refine Calls.mono (hcl.out _ _ HU.out.au.tail HC.out) ?_;rintro e w4 ⟨rfl,h4,c4,u4⟩;have U4:=Lib.hid (aj.iL HU.out u4);have C4:=Lib.hid c4;clear u4 c4)
    | (go_at_call 38;refine Calls.mono (hlv.out _ _ U4.out.au.tail C4.out) ?_;rintro e w5 ⟨ao,cap,hx,h5,rfl,c5,u5,_⟩;have U5:=Lib.hid ((aj.iL U4.out u5).forget ((List.sublist_append_right hx h5).cons_cons (ph,aC pc)));have C5:=Lib.hid c5;clear u5 c5)
    | (go_at_call 37;refine Calls.mono (hwd.out _ _ U5.out.au.tail C5.out) ?_;rintro e w6 ⟨rfl,h6,c6,u6⟩;have U6:=Lib.hid (aj.iL U5.out u6);have C6:=Lib.hid c6;clear u6 c6))
   go_roundw
   case rel=>exact⟨k+1,n',y',o',by omega,rfl,rfl,rfl,by go_num,Lib.hid ⟨s',g',h6,R1.out,by omega,R3.out,HN.out.1,HN.out.2.1,HN.out.2.2,C6.out,U6.out⟩⟩
   case measure=>simp[intOf];omega
  ·obtain⟨z1,z2,z3⟩:=live_none HR.out (fun j hj=>HZ.out j (by omega)) (g.nodes.length+1)
   have hn0:n=0:=HE.out.1.trans z1
   have hy0:y=0:=HE.out.2.1.trans z2
   have ho0:o=0:=HE.out.2.2.trans z3
   subst hn0 hy0 ho0
   clear z1 z2 z3 HE HZ
   simp only[Int.natCast_zero]
   go_wp2
   go_ret
   exact⟨by first|rfl|trivial,HU.out.forget (List.nil_sublist _)⟩
end Go.Proofs.YtibemcgdmembeaaGreat
namespace Go.Proofs.YtibemcgdmembeaaGreat
open Go.ChangeShapes Go.WideShapes Go.ChangeAt Go.RowKit
theorem walkFewer_lifted(os:Os)(started:os.Started)(H:Type)(enc:TypeId×Value->H):
  ReturnsInHanded {} Tryz.checked os 12 .any (Rows.walkFewerSpec.pre6 enc Tryz.prog Tryz.f12 Rows.walkFewerRow.domain false) (Rows.walkFewerSpec.post enc Tryz.prog Tryz.f12 false true false false):=by
 refine returnsInHanded_of_change (C:=Tryz.checked) Tryz.own started (by kernel_rfl) Tryz.func12
  (ChangeSpec.witness6 (enc:=enc) (C:=Tryz.checked) false ⟨#[],#[.int .u8 0, .int .u8 0, .int .u8 0, .int .u8 0, .slice none 0 0],[]⟩ 8 (by kernel_rfl) (by kernel_rfl) (by kernel_rfl) (by kernel_rfl)) ?_
 intro W base args ds gs before hval0 hW hcnd _
 have hval: ∀(j:Nat) t v,Tryz.f12.params[j]? =some t->args[j]? =some v->Value.okWide Tryz.prog W .any base t v:=hval0
 have hW':=hW
 obtain⟨p,q,hA0,hV,rfl,hfz,hnd⟩:=hW
 have hA:DataW.TrodAll enc Tryz.prog W 0 (fun _=>true) true Tryz.f12.params.toList args.toList ds p:=hA0
 rw[Tryz.params12]at hA hval
 obtain⟨v0,vs0,d0,ds0,p0,q0,hargs,rfl,rfl,h0,r0⟩:=trodAll_cons hA
 obtain⟨v1,vs1,d1,ds1,p1,q1,rfl,rfl,rfl,h1,r1⟩:=trodAll_cons r0
 obtain⟨v2,vs2,d2,ds2,p2,q2,rfl,rfl,rfl,h2,r2⟩:=trodAll_cons r1
 obtain⟨v3,vs3,d3,ds3,p3,q3,rfl,rfl,rfl,h3,r3⟩:=trodAll_cons r2
 obtain⟨v4,vs4,d4,ds4,p4,q4,rfl,rfl,rfl,h4,r4⟩:=trodAll_cons r3
 obtain⟨rfl,rfl,rfl⟩:=trodAll_nil r4
 obtain rfl:args=#[v0,v1,v2,v3,v4]:=by cases args;simp_all
 obtain⟨rfl,rfl⟩:=trodVars_none hV
 obtain⟨a0,rfl,rfl,rfl,w0⟩:=open_int Tryz.underlying5 (hval 0 5 v0 rfl rfl) h0
 obtain⟨a1,rfl,rfl,rfl,w1⟩:=open_int Tryz.underlying5 (hval 1 5 v1 rfl rfl) h1
 obtain⟨a2,rfl,rfl,rfl,w2⟩:=open_int Tryz.underlying5 (hval 2 5 v2 rfl rfl) h2
 obtain⟨a3,rfl,rfl,rfl,w3⟩:=open_int Tryz.underlying5 (hval 3 5 v3 rfl rfl) h3
 have k4:=h4
 have lt4: ∀x∈p4,x.block<W.heap.size:=by obtain⟨m,hm⟩:=k4;exact DataW.trod_lt m _ _ _ hm
 obtain⟨a4,w4⟩:=Ky (hval 4 24 v4 rfl rfl) h4
 clear hA0 hval0
 refine(walkFewer_any a0 a1 a2 a3 v4 a4 (LJ w0) (LJ w1) (LJ w2) (LJ w3) w4).mono fun e W' ⟨he,hu⟩=> ?_
 subst he
 exact⟨_,rfl,zQ (pv:=[]) hW' (fun _ _ _=>trodAll_cons_mk (shut_bool Tryz.underlying4 _) trodAll_mk0) (trodAll_cons_mk (shut_int Tryz.underlying5 w0) (trodAll_cons_mk (shut_int Tryz.underlying5 w1) (trodAll_cons_mk (shut_int Tryz.underlying5 w2) (trodAll_cons_mk (shut_int Tryz.underlying5 w3) (trodAll_cons_mk (Below.trod Tryz.laidOut (by kernel_rfl) (of_decide_eq_true (by kernel_rfl)) k4 hu.below lt4) trodAll_mk0))))) (fun _ _=>rfl) rfl
  (hu.below.frame _)⟩
theorem walkFewer_holds:Rows.WalkFewerSaid:=
 OpenClaim.holds_of_wide 12 Tryz.f12 rfl rfl rfl rfl rfl rfl rfl ⟨rfl,rfl,rfl,rfl,rfl⟩ rfl rfl rfl rfl rfl (by kernel_rfl) Tryz.func12 (by kernel_rfl)
  (of_decide_eq_true (by kernel_rfl)) (by unfold Func.isWrapper;first|(rw[if_pos (by decide+kernel)];kernel_rfl)|(rw[if_neg (by decide+kernel)];exact⟨rfl,rfl⟩))
  (fun os started H enc _=>walkFewer_lifted os started H enc)
#print axioms walkFewer_holds
end Go.Proofs.YtibemcgdmembeaaGreat
