/- What is shown of a heap, told one after the other, as a loop does. No program in sight. Conditions: a core whose parts fit its configuration. -/
import Derived.Test.YtibemcgdmembeaaGreatRows
import Derived.Test.YtibemcgdmembeaaGreatZE
set_option linter.unusedVariables false
set_option linter.unusedSimpArgs false
set_option maxRecDepth 100000
set_option maxHeartbeats 4000000
namespace Go.Proofs.YtibemcgdmembeaaGreat
open Go.RowKit
def Home(s:af)(cur az:List Int)(a:Int):Prop:=a∈cur∨(s.o.aH a).isSome=true∨(a∈az/\bH s.ws a=a)
theorem Home.kE{s:af}{cur az:List Int}{a:Int}(h:Home s cur az a):gQ s cur az a:=by
 rcases h with h|h|h
 ·exact .inl h
 ·exact .inr (.inr h)
 ·exact .inr (.inl h.1)
structure dB where
 ptrs:List Int
 iD:List Int
def YL:dB:=⟨[],[]⟩
structure Rep(s:af)(cur az:List Int)(N:Int->dB)(hs:List Int)(K:Int->Prop)(loc:Int->Int):Prop where
 k0: ¬K 0
 l0:loc 0=0
 inj: ∀n m,K n->K m->loc n=loc m->n=m
 pl: ∀n,K n->Home s cur az (loc n)
 sz: ∀n,K n->(ag s.ws (loc n)).size=((N n).ptrs.length:Int)+(N n).iD.length
 pn: ∀n,K n->(ag s.ws (loc n)).ptrs=((N n).ptrs.length:Int)
 pk: ∀n,K n-> ∀m∈(N n).ptrs,m=0∨K m
 pt: ∀n,K n-> ∀j:Nat,j<(N n).ptrs.length->s.now (aQ s.ws (loc n) j)=loc ((N n).ptrs.getD j 0)
 sc: ∀n,K n-> ∀j:Nat,j<(N n).iD.length->rd s.ws (loc n+2+(((N n).ptrs.length:Int)+j))=(N n).iD.getD j 0
 hl:hs.length=s.t.length
 hk: ∀x∈hs,x=0∨K x
 hv: ∀j:Nat,j<hs.length->s.now (s.t.getD j 0)=loc (hs.getD j 0)
theorem Inv.jF{s:af}{cur az:List Int}{E F:Int->Prop}(I:Inv s cur az E F){a:Int}(ha:gQ s cur az a){k:Int}(k0:0<=k)(k1:k<(ag s.ws a).ptrs):b_ s cur az (aQ s.ws a k):=by
 rcases ha with ha|ha|ha
 ·rcases I.refs.rC a ha k k0 k1 with h|h|h|⟨_,h,_⟩
  ·exact .inl h
  ·exact .inr (.inl h)
  ·exact .inr (.inr (.inl h))
  ·exact .inr (.inr (.inr h))
 ·rcases I.refs.rO a ha k k0 k1 with h|h|h
  ·exact .inl h
  ·exact .inr (.inl h)
  ·exact .inr (.inr (.inr h))
 ·rcases I.refs.rM a ha k k0 k1 with h|h|⟨h,_⟩|⟨_,h,_⟩
  ·exact .inl h
  ·exact .inr (.inl h)
  ·exact .inr (.inr (.inl h))
  ·exact .inr (.inr (.inr h))
theorem Lay.bM{s:af}{cur az:List Int}(l:Lay s cur az){r:Int}(h:bT s cur r):s.now r=r:=by
 unfold af.now
 rw[if_neg]
 rintro⟨h0,h1⟩
 rcases h with h|h|h
 ·exact h0 h
 ·rw[l.jl (.inl h)]at h1;cases h1
 ·rw[l.fK (.inl h)]at h1;cases h1
theorem vG{s:af}{cur az cur':List Int}{E F:Int->Prop}(I:Inv s cur az E F){a t:Int}(ha:a∈az)(hw:bH s.ws a=a)(M:xY s cur az a (s.moved a) cur' t){r:Int}(hr:b_ s cur az r):(s.moved a).now r=if s.now r=a then t else s.now r:=by
 have hfr: ∀x,(s.moved a).y.dI x=s.y.dI x:=by
  intro x
  have hof:(s.moved a).y.of=s.y.of:=by rw[M.y.1];rfl
  unfold aJ.dI
  rw[hof,M.y.2.1]
 have h0:a≠0:=I.lay.not_zero (.inr (.inl ha))
 have stay:bT s cur r->(s.moved a).now r=if s.now r=a then t else s.now r:=by
  intro h
  have e:=I.lay.bM h
  have hra:r≠a:=by
   intro e2
   subst e2
   rcases h with h|h|h
   ·exact h0 h
   ·have:=I.lay.gz ha
    rw[I.lay.jl (.inl h)]at this
    cases this
   ·have:=I.lay.gz ha
    rw[I.lay.fK (.inl h)]at this
    cases this
  rw[e,if_neg hra]
  unfold af.now at e⊢
  by_cases hc:r≠0/\s.y.dI r=true
  ·exfalso
   rcases h with h|h|h
   ·exact hc.1 h
   ·have:=hc.2
    rw[I.lay.jl (.inl h)]at this
    cases this
   ·have:=hc.2
    rw[I.lay.fK (.inl h)]at this
    cases this
  ·rw[if_neg (by rw[hfr];exact hc)]
 rcases hr with h|h|h|h
 ·exact stay (.inl h)
 ·exact stay (.inr (.inl h))
 ·exact stay (.inr (.inr h))
 ·have hr0:r≠0:=I.lay.not_zero (.inr (.inl h))
  have e1:(s.moved a).now r=bH (s.moved a).ws r:=by
   unfold af.now
   rw[if_pos ⟨hr0,by rw[hfr];exact I.lay.gz h⟩]
  rw[e1,I.lay.iw h]
  by_cases e:r=a
  ·subst e
   rw[hw,if_pos rfl,M.RJ]
  ·have hO:gQ s cur az r:= .inr (.inl h)
   obtain⟨p1,p2,p3,p4⟩:=I.lay.pos hO
   have:=(aA s.ws r).1
   rw[(M.rest r hO e).way (by omega) (by omega) p3,if_neg]
   intro XE
   rcases(I.hds.Fg r h).2.2.2 with h1|h1|h1
   ·rw[h1]at XE;exact e XE
   ·rw[XE]at h1
    have:=I.lay.gz ha
    rw[I.lay.fK (.inl h1)]at this
    cases this
   ·rw[XE]at h1
    have:=I.lay.gz ha
    rw[I.lay.jl (.inl h1)]at this
    cases this
theorem Rep.moved{s:af}{cur az cur':List Int}{E F:Int->Prop}{N:Int->dB}{hs:List Int}{K:Int->Prop}{loc:Int->Int}(R:Rep s cur az N hs K loc)(I:Inv s cur az E F){a t:Int}(ha:a∈az)(hw:bH s.ws a=a)(M:xY s cur az a (s.moved a) cur' t)
  (hm: ∀b∈cur,b∈cur')(hT:t∈cur'∨((s.moved a).o.aH t).isSome=true)(ht: ∀x∈s.t,b_ s cur az x):Rep (s.moved a) cur' az N hs K (fun n=>if loc n=a then t else loc n):=by
 have h0:a≠0:=I.lay.not_zero (.inr (.inl ha))
 have GV:gQ s cur az a:= .inr (.inl ha)
 obtain⟨o1,o2,o3,o4,o5,o6,o7,o8,o9,RP,KX⟩:=kM s a
 obtain⟨hg,hwx,hsx,hpx,hox,hnx⟩:=yP I.hds.par a
 have sm: ∀b,gQ s cur az b->b≠a->ag (s.moved a).ws b=ag s.ws b/\bH (s.moved a).ws b=bH s.ws b/\ (∀k:Int,0<=k->k<(ag s.ws b).ptrs->aQ (s.moved a).ws b k=aQ s.ws b k)/\ ∀k:Int,0<=k->k<(ag s.ws b).size->rd (s.moved a).ws (b+2+k)=rd s.ws (b+2+k):=by
  intro b hb hba
  have S:=M.rest b hb hba
  obtain⟨p1,p2,p3,p4⟩:=I.lay.pos hb
  obtain⟨b1,b2,b3,b4,b5⟩:=aA s.ws b
  exact⟨S.head (by omega),S.way (by omega) (by omega) p3,fun k k0 k1=>S.ref (by omega) p3 k0 (by omega) (by omega),fun k k0 k1=>S _ (by omega) (by omega)⟩
 obtain⟨pa1,YD,pa3,pa4⟩:=I.lay.pos GV
 obtain⟨b1,b2,b3,b4,b5⟩:=aA s.ws a
 have RQ: ∀k:Int,0<=k->k<(ag s.ws a).ptrs->aQ (s.moved a).ws t k=aQ s.ws a k:=by
  intro k k0 k1
  have:=M.pos
  rw[dR (by omega) M.pos.2 k0 (by omega),dR (by omega) pa3 k0 (by omega),M.Nv k k0 (by omega)]
 refine⟨R.k0, ?_, ?_, ?_, ?_, ?_,R.pk, ?_, ?_,by rw[o4];exact R.hl,R.hk, ?_⟩
 ·show(if loc 0=a then t else loc 0)=0
  rw[R.l0,if_neg (fun e=>h0 e.symm)]
 ·intro n m hn hm' e
  have e':(if loc n=a then t else loc n)=(if loc m=a then t else loc m):=e
  by_cases en:loc n=a
  ·by_cases em:loc m=a
   ·exact R.inj n m hn hm' (en.trans em.symm)
   ·rw[if_pos en,if_neg em]at e'
    exact absurd (e'▸ (R.pl m hm').kE) M.new
  ·by_cases em:loc m=a
   ·rw[if_neg en,if_pos em]at e'
    exact absurd (e'▸ (R.pl n hn).kE) M.new
   ·rw[if_neg en,if_neg em]at e'
    exact R.inj n m hn hm' e'
 ·intro n hn
  show Home (s.moved a) cur' az (if loc n=a then t else loc n)
  by_cases en:loc n=a
  ·rw[if_pos en]
   exact hT.elim .inl (fun h=> .inr (.inl h))
  ·rw[if_neg en]
   rcases R.pl n hn with h|h|h
   ·exact .inl (hm _ h)
   ·refine .inr (.inl ?_)
    rw[M.size _ (.inl (fun e=>M.new (.inr (.inr (e▸h)))))]
    exact h
   ·exact .inr (.inr ⟨h.1,by rw[(sm _ (.inr (.inl h.1)) en).2.1];exact h.2⟩)
 ·intro n hn
  show(ag (s.moved a).ws (if loc n=a then t else loc n)).size=_
  by_cases en:loc n=a
  ·rw[if_pos en,M.JC,hsx,<-en]
   exact R.sz n hn
  ·rw[if_neg en,(sm _ (R.pl n hn).kE en).1]
   exact R.sz n hn
 ·intro n hn
  show(ag (s.moved a).ws (if loc n=a then t else loc n)).ptrs=_
  by_cases en:loc n=a
  ·rw[if_pos en,M.JC,hpx,<-en]
   exact R.pn n hn
  ·rw[if_neg en,(sm _ (R.pl n hn).kE en).1]
   exact R.pn n hn
 ·intro n hn j hj
  show(s.moved a).now (aQ (s.moved a).ws (if loc n=a then t else loc n) j)=if loc ((N n).ptrs.getD j 0)=a then t else loc ((N n).ptrs.getD j 0)
  have hpn:=R.pn n hn
  have hre:aQ (s.moved a).ws (if loc n=a then t else loc n) j=aQ s.ws (loc n) j:=by
   by_cases en:loc n=a
   ·rw[if_pos en,en]
    rw[en]at hpn
    exact RQ j (by omega) (by omega)
   ·rw[if_neg en]
    exact(sm _ (R.pl n hn).kE en).2.2.1 j (by omega) (by omega)
  rw[hre,vG I ha hw M (I.jF (R.pl n hn).kE (by omega) (by omega)),R.pt n hn j hj]
 ·intro n hn j hj
  show rd (s.moved a).ws ((if loc n=a then t else loc n)+2+(((N n).ptrs.length:Int)+j))=_
  have hsz:=R.sz n hn
  by_cases en:loc n=a
  ·rw[if_pos en]
   rw[en]at hsz
   rw[M.Nv _ (by omega) (by omega),<-en]
   exact R.sc n hn j hj
  ·rw[if_neg en,(sm _ (R.pl n hn).kE en).2.2.2 _ (by omega) (by omega)]
   exact R.sc n hn j hj
 ·intro j hj
  show(s.moved a).now ((s.moved a).t.getD j 0)=if loc (hs.getD j 0)=a then t else loc (hs.getD j 0)
  rw[o4]
  have hjt:j<s.t.length:=by rw[<-R.hl];exact hj
  have hx:s.t.getD j 0∈s.t:=by
   rw[List.getD_eq_getElem?_getD,List.getElem?_eq_getElem hjt]
   exact List.getElem_mem hjt
  rw[vG I ha hw M (ht _ hx),R.hv j hj]
end Go.Proofs.YtibemcgdmembeaaGreat
namespace Go.Proofs.YtibemcgdmembeaaGreat
open Go.RowKit
theorem Rep.keep{s s':af}{cur az cur':List Int}{N:Int->dB}{hs:List Int}{K:Int->Prop}{loc:Int->Int}(R:Rep s cur az N hs K loc)(hm: ∀b∈cur,b∈cur')(ho: ∀b,(s.o.aH b).isSome=true->(s'.o.aH b).isSome=true)
  (hw: ∀b∈az,bH s'.ws b=bH s.ws b)(hb: ∀b,Home s cur az b->(ag s'.ws b).size=(ag s.ws b).size/\ (ag s'.ws b).ptrs=(ag s.ws b).ptrs/\ (∀k:Int,(ag s.ws b).ptrs<=k->k<(ag s.ws b).size->rd s'.ws (b+2+k)=rd s.ws (b+2+k))/\
   (∀k:Int,0<=k->k<(ag s.ws b).ptrs->s'.now (aQ s'.ws b k)=s.now (aQ s.ws b k)))(htl:s'.t.length=s.t.length)(ht: ∀j:Nat,j<s.t.length->s'.now (s'.t.getD j 0)=s.now (s.t.getD j 0)):Rep s' cur' az N hs K loc:=by
 refine⟨R.k0,R.l0,R.inj, ?_, ?_, ?_,R.pk, ?_, ?_,by rw[htl];exact R.hl,R.hk, ?_⟩
 ·intro n hn
  rcases R.pl n hn with h|h|h
  ·exact .inl (hm _ h)
  ·exact .inr (.inl (ho _ h))
  ·exact .inr (.inr ⟨h.1,by rw[hw _ h.1];exact h.2⟩)
 ·intro n hn
  rw[(hb _ (R.pl n hn)).1]
  exact R.sz n hn
 ·intro n hn
  rw[(hb _ (R.pl n hn)).2.1]
  exact R.pn n hn
 ·intro n hn j hj
  have:=R.pn n hn
  rw[(hb _ (R.pl n hn)).2.2.2 j (by omega) (by omega)]
  exact R.pt n hn j hj
 ·intro n hn j hj
  have:=R.pn n hn
  have:=R.sz n hn
  rw[(hb _ (R.pl n hn)).2.2.1 _ (by omega) (by omega)]
  exact R.sc n hn j hj
 ·intro j hj
  rw[ht j (by rw[<-R.hl];exact hj)]
  exact R.hv j hj
theorem v_.qw{s:af}{cur az cur':List Int}{r T:Int}{s':af}(M:v_ s cur az r s' cur' T){x:Int}(h:b_ s cur az x):b_ s' cur' az x:=by
 rcases h with h|h|h|h
 ·exact .inl h
 ·exact .inr (.inl (by unfold bV at h⊢;rw[M.C,M.wl];exact h))
 ·exact .inr (.inr (.inl (M.mono x h)))
 ·exact .inr (.inr (.inr h))
theorem BG{s:af}{cur az:List Int}{E F:Int->Prop}(I:Inv s cur az E F)(hmv:s.aG=true){N:Int->dB}{hs:List Int}{K:Int->Prop}{loc:Int->Int}(R:Rep s cur az N hs K loc)(ht: ∀x∈s.t,b_ s cur az x){r:Int}(hr:b_ s cur az r):
  ∃cur' loc',Inv (s.move r) cur' az E F/\v_ s cur az r (s.move r) cur' (s.dA r)/\Rep (s.move r) cur' az N hs K loc'/\ (s.move r).now r=s.dA r:=by
 have stay:r=0∨s.y.dI r=false->bT s cur r-> ∃cur' loc',Inv (s.move r) cur' az E F/\v_ s cur az r (s.move r) cur' (s.dA r)/\Rep (s.move r) cur' az N hs K loc'/\ (s.move r).now r=s.dA r:=by
  intro h hn
  rw[af.move,af.dA,if_pos h,if_pos h]
  exact⟨cur,loc,I,⟨fun _ hb=>hb,hn,fun _ _ _ _ _=>rfl,rfl,rfl,rfl,rfl,rfl,rfl,rfl,rfl,fun _ _=>rfl,fun _ hb=>hb⟩,R,I.lay.bM hn⟩
 rcases hr with h|h|h|h
 ·exact stay (.inl h) (.inl h)
 ·exact stay (.inr (I.lay.jl (.inl h))) (.inr (.inl h))
 ·exact stay (.inr (I.lay.fK (.inl h))) (.inr (.inr h))
 ·have h0: ¬(r=0∨s.y.dI r=false):=by
   rintro(h1|h1)
   ·exact I.lay.not_zero (.inr (.inl h)) h1
   ·rw[I.lay.gz h]at h1;cases h1
  by_cases hw:bH s.ws r=r
  ·obtain⟨cur',M,I',hm,hT⟩:=vz I hmv h hw
   have e1:s.move r=s.moved r:=by rw[af.move,if_neg h0,I.lay.iw h,if_pos hw]
   have e2:s.dA r=s.kD r:=by rw[af.dA,if_neg h0,I.lay.iw h,if_pos hw]
   rw[e1,e2]
   obtain⟨o1,o2,o3,o4,o5,o6,o7,o8,o9,RP,KX⟩:=kM s r
   have R':=R.moved I h hw M hm hT ht
   refine⟨cur',_,I',⟨hm, ?_, ?_,o1,o2,o4,o5,o6,o7,o8,M.wl, ?_, ?_⟩,R', ?_⟩
   ·rcases hT with hT|hT
    ·exact .inr (.inr hT)
    ·exact .inr (.inl (I'.lay.kC hT))
   ·intro b hb
    have hbr:b≠r:=by
     intro e
     have h1:=I.lay.gz h
     rw[<-e,I.lay.fK hb]at h1
     cases h1
    exact M.rest b (hb.elim .inl (fun h=> .inr (.inr h))) hbr
   ·intro b hb
    refine M.size b (.inl ?_)
    intro e
    exact M.new (.inr (.inr (e▸hb)))
   ·intro b hb
    rw[KX]
    split
    ·exact List.mem_append_left _ hb
    ·exact hb
   ·rw[vG I h hw M (.inr (.inr (.inr h))),I.lay.iw h,hw,if_pos rfl]
  ·have e1:s.move r=s:=by rw[af.move,if_neg h0,I.lay.iw h,if_neg hw]
   have e2:s.dA r=bH s.ws r:=by rw[af.dA,if_neg h0,I.lay.iw h,if_neg hw]
   rw[e1,e2]
   refine⟨cur,loc,I,⟨fun _ hb=>hb, ?_,fun _ _ _ _ _=>rfl,rfl,rfl,rfl,rfl,rfl,rfl,rfl,rfl,fun _ _=>rfl,fun _ hb=>hb⟩,R,I.lay.iw h⟩
   rcases(I.hds.Fg r h).2.2.2 with h1|h1|h1
   ·exact absurd h1 hw
   ·exact .inr (.inr h1)
   ·exact .inr (.inl h1)
theorem Rep.setRef{s:af}{cur az:List Int}{E F:Int->Prop}(I:Inv s cur az E F){N:Int->dB}{hs:List Int}{K:Int->Prop}{loc:Int->Int}(R:Rep s cur az N hs K loc){a k T:Int}(ha:jI s cur E a)(k0:0<=k)(k1:k<(ag s.ws a).ptrs)(hT:bT s cur T)(hn:s.now (aQ s.ws a k)=T)(ht: ∀x∈s.t,b_ s cur az x):
  Rep {s with ws:=iQ s.ws (place a k) (u64 T)} cur az N hs K loc:=by
 obtain⟨I2,r1,r2,r3,r4,r5⟩:=kN I ha k0 k1 hT
 have GV:gQ s cur az a:=ha.elim .inl (fun h=> .inr (.inr h.1))
 obtain⟨p1,p2,p3,p4⟩:=I.lay.pos GV
 obtain⟨b1,b2,b3,b4,b5⟩:=aA s.ws a
 have hno: ∀b∈az,b≠a:=by
  intro b hb e
  have h1:=I.lay.gz hb
  rw[e,I.lay.fK ha.kE]at h1
  cases h1
 have EX: ∀b∈az,bH (iQ s.ws (place a k) (u64 T)) b=bH s.ws b:=by
  intro b hb
  have hO:gQ s cur az b:= .inr (.inl hb)
  obtain⟨q1,q2,q3,q4⟩:=I.lay.pos hO
  have:=(aA s.ws b).1
  exact(r2 b hO (hno b hb)).way (by omega) (by omega) q3
 have dQ: ∀x,b_ s cur az x->af.now {s with ws:=iQ s.ws (place a k) (u64 T)} x=s.now x:=by
  intro x hx
  rcases hx with h|h|h|h
  ·rw[I.lay.bM (.inl h)]
   exact I2.lay.bM (.inl h)
  ·rw[I.lay.bM (.inr (.inl h))]
   refine I2.lay.bM (.inr (.inl ?_))
   unfold bV at h⊢
   simp only[iC]
   exact h
  ·rw[I.lay.bM (.inr (.inr h))]
   exact I2.lay.bM (.inr (.inr h))
  ·rw[I.lay.iw h,I2.lay.iw h]
   exact EX x h
 have hnowH: ∀x,(x=0∨s.y.dI x=false)->af.now {s with ws:=iQ s.ws (place a k) (u64 T)} x=s.now x:=by
  intro x hx
  unfold af.now
  have: ¬(x≠0/\s.y.dI x=true):=by
   rintro⟨h1,h2⟩
   rcases hx with h|h
   ·exact h1 h
   ·rw[h2]at h;cases h
  rw[if_neg this,if_neg this]
 refine R.keep (fun _ h=>h) (fun _ h=>h) EX ?_ rfl ?_
 ·intro b hb
  by_cases e:b=a
  ·subst e
   refine⟨by rw[r3],by rw[r3],fun j j0 j1=>r5 j (by omega) (by omega) (by omega),fun j j0 j1=> ?_⟩
   by_cases ej:j=k
   ·subst ej
    rw[r1,hn,dQ T hT.qw,I.lay.bM hT]
   ·have e2:aQ (iQ s.ws (place b k) (u64 T)) b j=aQ s.ws b j:=by
     rw[dR (by omega) p3 j0 (by omega),dR (by omega) p3 j0 (by omega),r5 j j0 (by omega) ej]
    rw[e2]
    exact dQ _ (I.jF GV j0 j1)
  ·have S:=r2 b hb.kE e
   obtain⟨q1,q2,q3,q4⟩:=I.lay.pos hb.kE
   obtain⟨c1,c2,c3,c4,c5⟩:=aA s.ws b
   refine⟨by rw[S.head (by omega)],by rw[S.head (by omega)],fun j j0 j1=>S _ (by omega) (by omega),fun j j0 j1=> ?_⟩
   rw[S.ref (by omega) q3 j0 (by omega) (by omega)]
   exact dQ _ (I.jF hb.kE j0 j1)
 ·intro j hj
  refine dQ _ (ht _ ?_)
  rw[List.getD_eq_getElem?_getD,List.getElem?_eq_getElem hj]
  exact List.getElem_mem hj
theorem abG{s:af}{cur az:List Int}{E F:Int->Prop}(I:Inv s cur az E F)(hmv:s.aG=true){N:Int->dB}{hs:List Int}{K:Int->Prop}{loc:Int->Int}(R:Rep s cur az N hs K loc)(ht: ∀x∈s.t,b_ s cur az x){a:Int}(ha:jI s cur E a){k:Nat}(hk:(k:Int)<(ag s.ws a).ptrs):
  ∃cur' loc',Inv (s.dV a k) cur' az E F/\ (∀x,b_ s cur az x->b_ (s.dV a k) cur' az x)/\ (s.dV a k).t=s.t/\ (s.dV a k).aG=true/\jI (s.dV a k) cur' E a/\ag (s.dV a k).ws a=ag s.ws a/\ (∀b∈cur,b∈cur')/\Rep (s.dV a k) cur' az N hs K loc':=by
 obtain⟨cur',loc',I1,M,R1,dQ⟩:=BG I hmv R ht (I.qw ha (by omega) hk)
 have hI:gQ s cur az a:=ha.elim .inl (fun h=> .inr (.inr h.1))
 obtain⟨p1,p2,p3,p4⟩:=I.lay.pos hI
 obtain⟨b1,b2,b3,b4,b5⟩:=aA s.ws a
 have SA:=M.same a ha.kE
 have hdA:ag (s.move (aQ s.ws a k)).ws a=ag s.ws a:=SA.head (by omega)
 have VO:aQ (s.move (aQ s.ws a k)).ws a k=aQ s.ws a k:=SA.ref (by omega) p3 (by omega) (by omega) (by omega)
 have ha1:jI (s.move (aQ s.ws a k)) cur' E a:=by
  rcases ha with h|⟨h,h2⟩
  ·exact .inl (M.mono a h)
  ·exact .inr ⟨by rw[M.old a h];exact h,h2⟩
 unfold af.dV
 by_cases hq:s.dA (aQ s.ws a k)=aQ s.ws a k
 ·rw[if_pos hq]
  exact⟨cur',loc',I1,fun x hx=>M.qw hx,M.t,M.aG.trans hmv,ha1,hdA,M.mono,R1⟩
 ·rw[if_neg hq]
  obtain⟨I2,r1,r2,r3,r4,r5⟩:=kN (k:=(k:Int)) I1 ha1 (by omega) (by rw[hdA];exact hk) M.res
  have ht1: ∀x∈(s.move (aQ s.ws a k)).t,b_ (s.move (aQ s.ws a k)) cur' az x:=by
   intro x hx
   rw[M.t]at hx
   exact M.qw (ht x hx)
  have R2:=R1.setRef I1 ha1 (k:=(k:Int)) (by omega) (by rw[hdA];exact hk) M.res (by rw[VO];exact dQ) ht1
  refine⟨cur',loc',I2, ?_,M.t,M.aG.trans hmv, ?_,r3.trans hdA,M.mono,R2⟩
  ·intro x hx
   rcases M.qw hx with h|h|h|h
   ·exact .inl h
   ·refine .inr (.inl ?_)
    unfold bV at h⊢
    simp only[iC]
    exact h
   ·exact .inr (.inr (.inl h))
   ·exact .inr (.inr (.inr h))
  ·exact ha1
theorem abS{s:af}{cur az:List Int}{E F:Int->Prop}(I:Inv s cur az E F)(hmv:s.aG=true){N:Int->dB}{hs:List Int}{K:Int->Prop}{loc:Int->Int}(R:Rep s cur az N hs K loc)(ht: ∀x∈s.t,b_ s cur az x){a:Int}(ha:jI s cur E a): ∀j:Nat,(j:Int)<=(ag s.ws a).ptrs->
  ∃cur' loc',Inv (s.jb a j) cur' az E F/\ (∀x,b_ s cur az x->b_ (s.jb a j) cur' az x)/\ (s.jb a j).t=s.t/\ (s.jb a j).aG=true/\jI (s.jb a j) cur' E a/\ag (s.jb a j).ws a=ag s.ws a/\ (∀b∈cur,b∈cur')/\Rep (s.jb a j) cur' az N hs K loc'
 |0,_=>⟨cur,loc,I,fun _ h=>h,rfl,hmv,ha,rfl,fun _ h=>h,R⟩
 |j+1,hj=>by
  obtain⟨c1,l1,I1,k1,q1,q2,q3,q4,q5,R1⟩:=abS I hmv R ht ha j (by omega)
  obtain⟨c2,l2,I2,k2,w1,w2,w3,w4,w5,R2⟩:=abG I1 q2 R1 (fun x hx=>k1 x (ht x (by rw[<-q1];exact hx))) q3 (k:=j) (by rw[q4];omega)
  exact⟨c2,l2,I2,fun x hx=>k2 x (k1 x hx),w1.trans q1,w2,w3,w4.trans q4,fun b hb=>w5 b (q5 b hb),R2⟩
end Go.Proofs.YtibemcgdmembeaaGreat
namespace Go.Proofs.YtibemcgdmembeaaGreat
open Go.RowKit
theorem ig.uniq{ws:List Int}: ∀{l m:List Int} {f t:Int},ig ws f t l->ig ws f t m->l=m
 |[],[],_,_,_,_=>rfl
 |[],b::m,f,t,h,g=>by
  simp only[ig]at h
  obtain⟨rfl,g2⟩:=g
  have:=g2.le
  have:=(aA ws b).1
  omega
 |a::l,[],f,t,h,g=>by
  simp only[ig]at g
  obtain⟨rfl,h2⟩:=h
  have:=h2.le
  have:=(aA ws a).1
  omega
 |a::l,b::m,f,t,h,g=>by
  obtain⟨rfl,h2⟩:=h
  obtain⟨rfl,g2⟩:=g
  rw[ig.uniq h2 g2]
theorem Inv.uniq{s:af}{cur az cur' uN:List Int}{E F E' F':Int->Prop}(I:Inv s cur az E F)(J:Inv s cur' uN E' F'):cur'=cur/\uN=az:=⟨J.lay.rc.uniq I.lay.rc,J.lay.ro.uniq I.lay.ro⟩
theorem m_{s s':af}{cur az:List Int}(l:Lay s cur az)(hy:s'.y=s.y)(hw: ∀b∈az,bH s'.ws b=bH s.ws b){x:Int}(hx:b_ s cur az x):s'.now x=s.now x:=by
 unfold af.now
 rw[hy]
 by_cases hc:x≠0/\s.y.dI x=true
 ·rw[if_pos hc,if_pos hc]
  refine hw x ?_
  rcases hx with h|h|h|h
  ·exact absurd h hc.1
  ·have:=hc.2
   rw[l.jl (.inl h)]at this
   cases this
  ·have:=hc.2
   rw[l.fK (.inl h)]at this
   cases this
  ·exact h
 ·rw[if_neg hc,if_neg hc]
theorem fE{l:List Int}{j:Nat}(h:j<l.length):l.getD j 0∈l:=by
 rw[List.getD_eq_getElem?_getD,List.getElem?_eq_getElem h]
 exact List.getElem_mem h
theorem G7{s:af}{cur az:List Int}{E F:Int->Prop}(I:Inv s cur az E F){N:Int->dB}{hs:List Int}{K:Int->Prop}{loc:Int->Int}(R:Rep s cur az N hs K loc)(ht: ∀x∈s.t,b_ s cur az x){a:Int}(ha:(s.o.aH a).isSome=true):Rep (s.note a) cur az N hs K loc:=by
 obtain⟨I3,n1,n2,n3,n4,n5,n6,n7⟩:=rQ I ha
 obtain⟨m1,m2,m3,m4,m5,m6,m7,m8,m9,m10,m11,m12,m13⟩:=jm s a
 have hw: ∀b∈az,bH (s.note a).ws b=bH s.ws b:=fun b hb=>(n4 b (.inr (.inl hb))).2.2.2.2
 refine R.keep (fun _ h=>h) (fun b h=>by rw[m7];exact h) hw ?_ (by rw[m2]) ?_
 ·intro b hb
  obtain⟨h1,h2,h3,h4,h5⟩:=n4 b hb.kE
  obtain⟨b1,b2,b3,b4,b5⟩:=aA s.ws b
  refine⟨h1,h2,fun k k0 k1=>n5 b hb.kE k (by omega) k1,fun k k0 k1=> ?_⟩
  rw[n3 b hb.kE k k0 k1]
  exact m_ I.lay m9 hw (I.jF hb.kE k0 k1)
 ·intro j hj
  rw[m2]
  exact m_ I.lay m9 hw (ht _ (fE hj))
theorem JI{s:af}{cur az:List Int}{E F:Int->Prop}(I:Inv s cur az E F){N:Int->dB}{hs:List Int}{K:Int->Prop}{loc:Int->Int}(R:Rep s cur az N hs K loc)(ht: ∀x∈s.t,b_ s cur az x){a:Int}(ha:(s.o.aH a).isSome=true):Rep (s.dL a) cur az N hs K loc:=by
 obtain⟨I1,u1,u2,u3,u4,u5,u6⟩:=sS (E':=fun b=>E b∨b=a) (F':=F) I ha (fun b h=> .inl h) (.inr rfl) (fun _ _ h=>h)
 have hw: ∀b∈az,bH (s.dL a).ws b=bH s.ws b:=fun b hb=>u5 b (.inr (.inl hb))
 refine R.keep (fun _ h=>h) (fun _ h=>h) hw ?_ rfl ?_
 ·intro b hb
  obtain⟨b1,b2,b3,b4,b5⟩:=aA s.ws b
  have hd:(ag (s.dL a).ws b).size=(ag s.ws b).size/\ (ag (s.dL a).ws b).ptrs=(ag s.ws b).ptrs:=by
   by_cases e:b=a
   ·rw[e,u1]
    exact⟨rfl,rfl⟩
   ·rw[u2 b hb.kE e]
    exact⟨rfl,rfl⟩
  refine⟨hd.1,hd.2,fun k k0 k1=>u6 b hb.kE k (by omega) k1,fun k k0 k1=> ?_⟩
  rw[u4 b hb.kE k k0 k1]
  exact m_ (s':=s.dL a) I.lay rfl hw (I.jF hb.kE k0 k1)
 ·intro j hj
  exact m_ (s':=s.dL a) I.lay rfl hw (ht _ (fE hj))
theorem Rep.other{s s':af}{cur az:List Int}{N:Int->dB}{hs:List Int}{K:Int->Prop}{loc:Int->Int}(R:Rep s cur az N hs K loc)(h1:s'.ws=s.ws)(h2:s'.y=s.y)(h3:s'.o=s.o)(h4:s'.t=s.t):Rep s' cur az N hs K loc:=by
 have hn: ∀x,s'.now x=s.now x:=fun x=>by unfold af.now;rw[h1,h2]
 refine R.keep (fun _ h=>h) (fun b h=>by rw[h3];exact h) (fun b _=>by rw[h1]) ?_ (by rw[h4]) ?_
 ·intro b _
  rw[h1]
  exact⟨rfl,rfl,fun _ _ _=>rfl,fun k _ _=>hn _⟩
 ·intro j _
  rw[h4,hn]
theorem aaD{s:af}{cur az:List Int}{E F:Int->Prop}(I:Inv s cur az E F)(hmv:s.aG=true){N:Int->dB}{hs:List Int}{K:Int->Prop}{loc:Int->Int}(R:Rep s cur az N hs K loc)(ht: ∀x∈s.t,b_ s cur az x){a:Int}(ha:jI s cur E a){cur':List Int}(J:Inv (s.through a) cur' az E F): ∃loc',Rep (s.through a) cur' az N hs K loc':=by
 have hp:((s.bQ a:Nat):Int)=(ag s.ws a).ptrs:=by
  have:=(aA s.ws a).2.2.2.1
  unfold af.bQ
  omega
 obtain⟨c1,l1,I1,k1,q1,q2,q3,q4,q5,R1⟩:=abS I hmv R ht ha (s.bQ a) (by omega)
 unfold af.through at J⊢
 by_cases hy:s.iU a (s.bQ a)=true
 ·rw[if_pos hy]at J⊢
  rcases q3 with hc|⟨ho,_⟩
  ·rw[pW I1 hc]at J⊢
   obtain⟨rfl,_⟩:=I1.uniq J
   exact⟨l1,R1⟩
  ·have R2:=G7 I1 R1 (fun x hx=>k1 x (ht x (by rw[<-q1];exact hx))) ho
   obtain⟨rfl,_⟩:=(rQ I1 ho).1.uniq J
   exact⟨l1,R2⟩
 ·rw[if_neg hy]at J⊢
  obtain⟨rfl,_⟩:=I1.uniq J
  exact⟨l1,R1⟩
end Go.Proofs.YtibemcgdmembeaaGreat
namespace Go.Proofs.YtibemcgdmembeaaGreat
open Go.RowKit
theorem iy.ok{s:af}{cur az:List Int}(h:iy s cur): ∀x∈s.t,b_ s cur az x:=fun x hx=>(h x hx).qw
theorem iy.keep{s s':af}{cur az cur' uN:List Int}(l:Lay s cur az)(l':Lay s' cur' uN)(h:iy s cur)(hC:s'.C=s.C)(ht:s'.t=s.t)(hm: ∀b∈cur,b∈cur'):iy s' cur':=by
 intro x hx
 rw[ht]at hx
 refine bT.mono hC ?_ hm (h x hx)
 have h1:=l.wl
 have h2:=l'.wl
 rw[hC]at h2
 omega
theorem aaV{s:af}{cur az cur':List Int}{E F E' F':Int->Prop}(I:Inv s cur az E F)(hmv:s.aG=true){N:Int->dB}{hs:List Int}{K:Int->Prop}{loc:Int->Int}(R:Rep s cur az N hs K loc)(ht:iy s cur){a:Int}(J:Inv (s.fD a) cur' az E' F'): ∃loc',Rep (s.fD a) cur' az N hs K loc':=by
 unfold af.fD at J⊢
 by_cases hq:s.iV a=true
 ·rw[if_pos hq]at J⊢
  have ha:(s.o.aH a).isSome=true:=by
   unfold af.iV at hq
   rw[Bool.and_eq_true]at hq
   exact hq.1
  obtain⟨I1,u1,u2,u3,u4,u5,u6⟩:=sS (E':=fun b=>E b∨b=a) (F':=F) I ha (fun b h=> .inl h) (.inr rfl) (fun _ _ h=>h)
  have hL:jI (s.dL a) cur (fun b=>E b∨b=a) a:= .inr ⟨ha, .inr rfl⟩
  obtain⟨c1,L⟩:=uM I1 (show(s.dL a).aG=true from hmv) hL
  obtain⟨rfl,_⟩:=L.inv.uniq J
  exact aaD I1 hmv (JI I R ht.ok ha) (iy.keep I.lay I1.lay ht rfl rfl (fun _ h=>h)).ok hL L.inv
 ·rw[if_neg hq]at J⊢
  obtain⟨rfl,_⟩:=I.uniq J
  exact⟨loc,R⟩
theorem abp{az:List Int}{N:Int->dB}{hs:List Int}{K:Int->Prop}: ∀(l:List Int) {s:af} {cur cur':List Int} {loc:Int->Int},Inv s cur az (fun b=>b∈l/\ (ag s.ws b).aY=true) (fun b=>b∈l)->s.aG=true->(∀b∈l,(s.o.aH b).isSome=true)->iy s cur->Rep s cur az N hs K loc->Inv (s.iF l) cur' az gq gq->
  ∃loc',Rep (s.iF l) cur' az N hs K loc'
 |[],s,cur,cur',loc,I,_,_,_,R,J=>by
  have J':Inv s cur' az gq gq:=J
  obtain⟨rfl,_⟩:=I.uniq J'
  exact⟨loc,R⟩
 |a::l,s,cur,cur',loc,I,hmv,ho,ht,R,J=>by
  obtain⟨hok,c1,I1,M⟩:=yQ (a:=a) (E':=fun b=>b≠a/\b∈l/\ (ag s.ws b).aY=true) (F':=fun b=>b∈l) I hmv (fun _ h=>h.2)
   (fun b hb h=>⟨hb,(List.mem_cons.1 h.1).resolve_left hb,h.2⟩) (fun b hb h=>(List.mem_cons.1 h).resolve_left hb)
  have hds: ∀b∈l,b≠a->ag (s.fD a).ws b=ag s.ws b:=fun b hb hba=>M.others b hba (.inr (ho b (List.mem_cons_of_mem _ hb)))
  obtain⟨l1,R1⟩:=aaV I hmv R ht I1
  exact abp l (s:=s.fD a) (cur:=c1) (I1.weak (fun b h=>⟨h.2.1,by rw[hds b h.2.1 h.1];exact h.2.2⟩) (fun _ h=>h)) (M.aG.trans hmv)
   (fun b hb=>by rw[M.old b (ho b (List.mem_cons_of_mem _ hb))];exact ho b (List.mem_cons_of_mem _ hb)) (iy.keep I.lay I1.lay ht M.C M.t M.mono) R1 J
theorem acQ{s:af}{cur az cur':List Int}(I:Inv s cur az gq gq)(hmv:s.aG=true){N:Int->dB}{hs:List Int}{K:Int->Prop}{loc:Int->Int}(R:Rep s cur az N hs K loc)(ht:iy s cur)(J:Inv s.rF cur' az gq gq): ∃loc',Rep s.rF cur' az N hs K loc':=by
 have I1:Inv s.mY cur az (fun b=>b=s.h_) gq:=Ed I (fun b h=>h.elim) (fun _=>rfl)
 have R1:Rep s.mY cur az N hs K loc:=R.other rfl rfl rfl rfl
 unfold af.rF at J⊢
 by_cases ha:(s.o.aH s.h_).isSome=true
 ·rw[if_pos ha]at J⊢
  have hL:jI s.mY cur (fun b=>b=s.h_) s.h_:= .inr ⟨ha,rfl⟩
  obtain⟨c1,L⟩:=uM I1 (show s.mY.aG=true from hmv) hL
  obtain⟨rfl,_⟩:=L.inv.uniq J
  exact aaD I1 hmv R1 (iy.keep I.lay I1.lay ht rfl rfl (fun _ h=>h)).ok hL L.inv
 ·rw[if_neg ha]at J⊢
  obtain⟨rfl,_⟩:=I1.uniq J
  exact⟨loc,R1⟩
theorem acy{s:af}{cur az cur':List Int}(I:Inv s cur az gq gq)(hmv:s.aG=true)(hok:s.pR=true){N:Int->dB}{hs:List Int}{K:Int->Prop}{loc:Int->Int}(R:Rep s cur az N hs K loc)(ht:iy s cur)(J:Inv s.vY cur' az gq gq): ∃loc',Rep s.vY cur' az N hs K loc':=by
 obtain⟨hsc,c1,L,I2,_⟩:=BB I hmv hok
 obtain⟨rfl,_⟩:=I2.uniq J
 obtain⟨l1,R1⟩:=aaD I hmv R ht.ok (E:=gq) (.inl hsc) L.inv
 exact⟨l1,R1.other rfl rfl rfl rfl⟩
end Go.Proofs.YtibemcgdmembeaaGreat
namespace Go.Proofs.YtibemcgdmembeaaGreat
open Go.RowKit
theorem JJ{s:af}{cur az:List Int}(I:Inv s cur az gq gq)(hmv:s.aG=true){x:Int}{l:List Int}(hx:s.r.tb.list=x::l):Inv s.fV cur az (fun b=>b=x/\ (ag s.ws b).aY=true) (fun b=>b=x):=by
 have RO:=I.rem
 refine vC I hmv {s.r with tb:=s.r.tb.rest} ⟨RO.base,RO.ws,RO.size,RO.most,RO.nc,RO.tc,fun y hy=>RO.bi y (hy.elim .inl (fun h=> .inr (List.mem_of_mem_tail h))),RO.bm.1,RO.bm.2.1,RO.bm.2.2.1,Am RO.bm.2.2.2⟩ (fun _ h=>h) ?_
 intro b _ hn h
 rcases h with h|h
 ·rw[hx]at h
  rcases List.mem_cons.1 h with h|h
  ·exact .inr ⟨⟨h,hn⟩,h⟩
  ·refine .inl (.inl ?_)
   show b∈s.r.tb.list.tail
   rw[hx]
   exact h
 ·exact .inl (.inr h)
theorem G8{s:af}{cur az:List Int}(I:Inv s cur az gq gq)(hmv:s.aG=true)(hx:s.r.tb.list=[])(n:Nat):
  Inv (s.fB n) cur az (fun b=>b∈s.bF n/\ (ag (s.fB n).ws b).aY=true) (fun b=>b∈s.bF n)/\ (∀b∈s.bF n,((s.fB n).o.aH b).isSome=true):=by
 have RO:=I.rem
 obtain⟨t1,t2,t3,t4⟩:=RO.tc
 have hst: ∀b,b∈s.bF n↔s.r.tc.lI n<=b/\b<s.r.tc.lJ n/\ (s.o.aH b).isSome=true:=fun b=>nO I.lay.ov
 refine⟨?_,fun b hb=>((hst b).1 hb).2.2⟩
 refine vC I hmv {s.r with tb:=s.r.tb.rest,tc:=s.r.tc.KL n} ⟨RO.base,RO.ws,RO.size,RO.most,RO.nc,⟨t1,t2,t3, ?_⟩,fun y hy=>RO.bi y (hy.elim .inl (fun h=> .inr (List.mem_of_mem_tail h))),RO.bm.1,RO.bm.2.1,RO.bm.2.2.1,Am RO.bm.2.2.2⟩ (fun _ h=>h) ?_
 ·show((s.r.tc.marks.set n false).length:Int)=_
  rw[List.length_set]
  exact t4
 ·intro b ho hn h
  rcases h with h|h
  ·rw[hx]at h
   cases h
  ·by_cases e:((b-s.r.tc.base)/s.r.tc.card).toNat=n
   ·right
    have hh:=h
    unfold bz.marked at hh
    rw[Bool.and_eq_true]at hh
    have:=bz.Lc (c:=s.r.tc) (by rw[t3];exact I.lay.cf.c1) hh.1
    rw[e]at this
    have hb:b∈s.bF n:=(hst b).2 ⟨this.1,this.2,ho⟩
    exact⟨⟨hb,hn⟩,hb⟩
   ·exact .inl (.inr (bz.BC h e))
theorem bT.Vq{s:af}{cur az:List Int}(l:Lay s cur az){r:Int}(h:bT s cur r):r∉az:=by
 intro ho
 have h1:=l.gz ho
 rcases h with h|h|h
 ·exact l.not_zero (.inr (.inl ho)) h
 ·rw[l.jl (.inl h)]at h1;cases h1
 ·rw[l.fK (.inl h)]at h1;cases h1
theorem JK{s:af}{cur az:List Int}(I:Inv s cur az gq gq)(J:Inv s.gK cur [] gq gq){N:Int->dB}{hs:List Int}{K:Int->Prop}{loc:Int->Int}(R:Rep s cur az N hs K loc)(ht:iy s cur):Rep s.gK cur [] N hs (fun n=>K n/\loc n∉az) loc:=by
 have hnew: ∀r,bT s.gK cur r->bT s cur r:=fun r h=>h
 have vJ: ∀n,K n->loc n∉az-> ∀k:Int,0<=k->k<(ag s.ws (loc n)).ptrs->bT s cur (aQ s.ws (loc n) k):=by
  intro n hn ho k k0 k1
  rcases R.pl n hn with h|h|h
  ·rcases J.refs.rC _ h k k0 k1 with h|h|h|⟨h,_⟩
   ·exact .inl h
   ·exact .inr (.inl h)
   ·exact .inr (.inr h)
   ·cases h
  ·rcases J.refs.rM _ h k k0 k1 with h|h|⟨h,_⟩|⟨h,_⟩
   ·exact .inl h
   ·exact .inr (.inl h)
   ·exact .inr (.inr h)
   ·cases h
  ·exact absurd h.1 ho
 have P6: ∀m,(m=0∨K m)->bT s cur (loc m)->m=0∨(K m/\loc m∉az):=fun m hm h=>hm.elim .inl (fun hk=> .inr ⟨hk,h.Vq I.lay⟩)
 refine⟨fun h=>R.k0 h.1,R.l0,fun n m hn hm=>R.inj n m hn.1 hm.1, ?_,fun n hn=>R.sz n hn.1,fun n hn=>R.pn n hn.1, ?_, ?_,fun n hn=>R.sc n hn.1,R.hl, ?_, ?_⟩
 ·intro n hn
  rcases R.pl n hn.1 with h|h|h
  ·exact .inl h
  ·exact .inr (.inl h)
  ·exact absurd h.1 hn.2
 ·intro n hn m hm
  obtain⟨j,hj,rfl⟩:=List.getElem_of_mem hm
  have hpn:=R.pn n hn.1
  have h1:=vJ n hn.1 hn.2 j (by omega) (by omega)
  have h2:=R.pt n hn.1 j hj
  rw[I.lay.bM h1,List.getD_eq_getElem?_getD,List.getElem?_eq_getElem hj]at h2
  refine P6 _ (R.pk n hn.1 _ hm) ?_
  have h3:aQ s.ws (loc n) j=loc ((N n).ptrs[j]):=h2
  rw[<-h3]
  exact h1
 ·intro n hn j hj
  have hpn:=R.pn n hn.1
  have h1:=vJ n hn.1 hn.2 j (by omega) (by omega)
  have h2:=R.pt n hn.1 j hj
  rw[I.lay.bM h1]at h2
  exact(J.lay.bM (s:=s.gK) h1).trans h2
 ·intro x hx
  obtain⟨j,hj,rfl⟩:=List.getElem_of_mem hx
  have hjt:j<s.t.length:=by rw[<-R.hl];exact hj
  have h1:=ht _ (fE hjt)
  have h2:=R.hv j hj
  rw[I.lay.bM h1,show hs.getD j 0=hs[j] by rw[List.getD_eq_getElem?_getD,List.getElem?_eq_getElem hj];rfl]at h2
  refine P6 _ (R.hk _ hx) ?_
  have h3:s.t.getD j 0=loc (hs[j]):=h2
  rw[<-h3]
  exact h1
 ·intro j hj
  have hjt:j<s.t.length:=by rw[<-R.hl];exact hj
  have h1:=ht _ (fE hjt)
  have h2:=R.hv j hj
  rw[I.lay.bM h1]at h2
  exact(J.lay.bM (s:=s.gK) h1).trans h2
end Go.Proofs.YtibemcgdmembeaaGreat
namespace Go.Proofs.YtibemcgdmembeaaGreat
open Go.RowKit
theorem acz{s:af}{cur az:List Int}(I:Inv s cur az gq gq){N:Int->dB}{hs:List Int}{K:Int->Prop}{loc:Int->Int}(R:Rep s cur az N hs K loc)(ht:iy s cur):
  ∃cur' uN K' loc',Inv s.eG cur' uN gq gq/\Rep s.eG cur' uN N hs K' loc'/\iy s.eG cur'/\ (∀n,K' n->K n):=by
 have key: ∀{s':af} {cur':List Int},Inv s' cur' az gq gq->(∀b∈cur,b∈cur')->Kept s s'->(∃loc',Rep s' cur' az N hs K loc')-> ∃cur' uN K' loc',Inv s' cur' uN gq gq/\Rep s' cur' uN N hs K' loc'/\iy s' cur'/\ (∀n,K' n->K n):=by
  rintro s' cur' J m k ⟨l',R'⟩
  exact⟨cur',az,K,l',J,R',iy.keep I.lay J.lay ht k.C k.t m,fun _ h=>h⟩
 show∃cur' uN K' loc',Inv (s.stepOf s.which) cur' uN gq gq/\Rep (s.stepOf s.which) cur' uN N hs K' loc'/\iy (s.stepOf s.which) cur'/\ (∀n,K' n->K n)
 unfold af.which
 by_cases hmv:s.aG=false
 ·rw[if_pos hmv]
  exact⟨cur,az,K,loc,I,R,ht,fun _ h=>h⟩
 ·rw[if_neg hmv]
  have G6:s.aG=true:=by simpa using hmv
  by_cases hr:0<s.row.length
  ·rw[if_pos hr]
   obtain⟨h1,c1,I2,m,q1,q2,q3,q4,q5,q6⟩:=K_ I G6
   exact key I2 m ⟨q1,q2,q3,q4⟩ (acQ I G6 R ht I2)
  ·rw[if_neg hr]
   cases hx:s.r.tb.list with
   |cons x l=>
    obtain⟨h1,c1,I2,m,k,q5,q6⟩:=La I G6 hx
    have IP:=JJ I G6 hx
    exact key I2 m k (aaV IP G6 (R.other (s':=s.fV) rfl rfl rfl rfl) (iy.keep I.lay IP.lay ht rfl rfl (fun _ h=>h)) I2)
   |nil=>
    cases hf:s.r.tc.first with
    |some n=>
     obtain⟨h1,c1,I2,m,k,q5,q6⟩:=G5 I G6 hx n
     obtain⟨IP,ho⟩:=G8 I G6 hx n
     exact key I2 m k (abp (s.bF n) IP G6 ho (iy.keep I.lay IP.lay ht rfl rfl (fun _ h=>h)) (R.other (s':=s.fB n) rfl rfl rfl rfl) I2)
    |none=>
     by_cases hs':s.pR=true
     ·simp only[hs',if_true]
      obtain⟨hsc,c1,L,I2,_⟩:=BB I G6 hs'
      exact key I2 L.mono ⟨L.C,L.t,L.parity,L.phase⟩ (acy I G6 hs' R ht I2)
     ·simp only[hs']
      have J:=BD I G6 (by omega) hx hf hs'
      exact⟨cur,[],_,loc,J,JK I J R ht,ht,fun n h=>h.1⟩
theorem Ef{s:af}{cur az:List Int}(I:Inv s cur az gq gq)(hmv:s.aG=false){N:Int->dB}{hs:List Int}{K:Int->Prop}{loc:Int->Int}(R:Rep s cur az N hs K loc)(ht:iy s cur):Rep s.begun [] cur N hs K loc:=by
 obtain⟨r1,r2,r3,r4,r5⟩:=sU I hmv
 subst r1
 have B:=vF I hmv
 have dQ: ∀x,bT s cur x->s.begun.now x=s.now x:=by
  intro x hx
  rw[I.lay.bM hx]
  rcases hx with h|h|h
  ·exact B.lay.bM (.inl h)
  ·exact B.lay.bM (.inr (.inl h))
  ·rw[B.lay.iw h]
   exact(I.hds.Dv x h).2.2.2
 have hnew: ∀x,b_ s cur [] x->bT s cur x:=by
  intro x hx
  rcases hx with h|h|h|h
  ·exact .inl h
  ·exact .inr (.inl h)
  ·exact .inr (.inr h)
  ·cases h
 refine⟨R.k0,R.l0,R.inj, ?_,R.sz,R.pn,R.pk, ?_,R.sc,R.hl,R.hk, ?_⟩
 ·intro n hn
  rcases R.pl n hn with h|h|h
  ·exact .inr (.inr ⟨h,(I.hds.Dv _ h).2.2.2⟩)
  ·exact .inr (.inl h)
  ·cases h.1
 ·intro n hn j hj
  have hpn:=R.pn n hn
  have h1:=hnew _ (I.jF (R.pl n hn).kE (k:=(j:Int)) (by omega) (by omega))
  exact(dQ _ h1).trans (R.pt n hn j hj)
 ·intro j hj
  have hjt:j<s.t.length:=by rw[<-R.hl];exact hj
  exact(dQ _ (ht _ (fE hjt))).trans (R.hv j hj)
theorem Rep.PX{s:af}{cur az:List Int}{N:Int->dB}{hs:List Int}{K:Int->Prop}{loc:Int->Int}(R:Rep s cur az N hs K loc)(t:List Int)(h1:t.length=s.t.length)(h2: ∀j:Nat,j<s.t.length->s.now (t.getD j 0)=s.now (s.t.getD j 0)):Rep {s with t:=t} cur az N hs K loc:=
 R.keep (s':={s with t:=t}) (fun _ h=>h) (fun _ h=>h) (fun _ _=>rfl) (fun _ _=>⟨rfl,rfl,fun _ _ _=>rfl,fun _ _ _=>rfl⟩) h1 h2
end Go.Proofs.YtibemcgdmembeaaGreat
namespace Go.Proofs.YtibemcgdmembeaaGreat
open Go.RowKit
theorem aan{s:af}{az cur:List Int}(I:Inv s cur az gq gq)(hmv:s.aG=true)(ht: ∀x∈s.t,b_ s cur az x){N:Int->dB}{hs:List Int}{K:Int->Prop}{loc:Int->Int}(R:Rep s cur az N hs K loc): ∀k:Nat,k<=s.t.length->
  ∃cur' loc',Inv (s.handles s.t k) cur' az gq gq/\Rep (s.handles s.t k) cur' az N hs K loc'
 |0,_=>⟨cur,loc,I,R⟩
 |k+1,hk=>by
  obtain⟨c0,l0,I0,R0⟩:=aan I hmv ht R k (by omega)
  obtain⟨c1,I1,m1,a1,a2,a3,a4,a5,a6,a7,a8,a9⟩:=qx I hmv ht k (by omega)
  obtain⟨rfl,_⟩:=I0.uniq I1
  have lift: ∀{x:Int},b_ s cur az x->b_ (s.handles s.t k) c1 az x:=by
   intro x h
   rcases h with h|h|h|h
   ·exact .inl h
   ·exact .inr (.inl (by unfold bV at h⊢;rw[a1,a5];exact h))
   ·exact .inr (.inr (.inl (m1 x h)))
   ·exact .inr (.inr (.inr h))
  have ht1: ∀x∈(s.handles s.t k).t,b_ (s.handles s.t k) c1 az x:=by
   intro x hx
   obtain⟨j,hj,rfl⟩:=List.getElem_of_mem hx
   have e:(s.handles s.t k).t[j]=(s.handles s.t k).t.getD j 0:=by rw[List.getD_eq_getElem?_getD,List.getElem?_eq_getElem hj];rfl
   rw[e]
   by_cases hjk:j<k
   ·exact(a7 j hjk).qw
   ·rw[a8 j (by omega)]
    exact lift (ht _ (fE (by omega)))
  obtain⟨c2,l2,I2,M,R2,dQ⟩:=BG I1 a4 R0 ht1 (lift (ht _ (fE (l:=s.t) (j:=k) (by omega))))
  have hg:=fun j=>wU (l:=((s.handles s.t k).move (s.t.getD k 0)).t) (i:=k) (v:=(s.handles s.t k).dA (s.t.getD k 0)) (by rw[M.t];omega) j
  refine⟨c2,l2,I2.PX _,R2.PX (bP ((s.handles s.t k).move (s.t.getD k 0)).t k ((s.handles s.t k).dA (s.t.getD k 0))) (nS ..) ?_⟩
  intro j hj
  rw[hg j]
  by_cases e:j=k
  ·rw[if_pos e,e,I2.lay.bM M.res,M.t,a8 k (Nat.le_refl _),dQ]
  ·rw[if_neg e]
theorem abU{s:af}{cur az:List Int}(I:Inv s cur az gq gq){N:Int->dB}{hs:List Int}{K:Int->Prop}{loc:Int->Int}(R:Rep s cur az N hs K loc)(ht:iy s cur):
  ∃cur' uN loc',Inv s.eY cur' uN gq gq/\Rep s.eY cur' uN N hs K loc'/\iy s.eY cur':=by
 obtain⟨_,c1,o1,J,hJ,_⟩:=Ee I ht
 cases hmv:s.aG with
 |true=>
  have e0:s.jh=false:=by simp[af.jh,hmv]
  have e1:s.eY=s:=by unfold af.eY;rw[if_neg (by rw[e0];decide)]
  rw[e1]
  exact⟨cur,az,loc,I,R,ht⟩
 |false=>
  obtain⟨r1,r2,r3,r4,r5⟩:=sU I hmv
  have e0:s.jh=true:=by simp[af.jh,hmv,r5]
  have e1:s.eY=s.begun.handles s.t s.t.length:=by unfold af.eY;rw[if_pos e0]
  have B:=vF I hmv
  have ht2: ∀x∈s.begun.t,b_ s.begun [] cur x:=by
   intro x hx
   rcases ht x hx with h|h|h
   ·exact .inl h
   ·exact .inr (.inl h)
   ·exact .inr (.inr (.inr h))
  obtain⟨c2,l2,I2,R2⟩:=aan B rfl ht2 (Ef I hmv R ht) s.t.length (Nat.le_refl _)
  rw[e1]at J hJ⊢
  have I2':Inv (s.begun.handles s.t s.t.length) c2 cur gq gq:=I2
  obtain⟨rfl,rfl⟩:=J.uniq I2'
  exact⟨_,_,l2,J,R2,hJ⟩
end Go.Proofs.YtibemcgdmembeaaGreat
namespace Go.Proofs.YtibemcgdmembeaaGreat
open Go.RowKit
def ac4(met:List Int)(x:Int):List Int×Int:=if x=0 then(met,0)else if x∈met then(met,(met.idxOf x:Int)+1)else(met++[x],(met.length:Int)+1)
section
variable{K:Int->Prop}{loc:Int->Int}
end
end Go.Proofs.YtibemcgdmembeaaGreat
namespace Go.Proofs.YtibemcgdmembeaaGreat
open Go.RowKit
theorem uO{α:Type}(g:Int->α)(l:List Int):(List.range l.length).map (fun k=>g (l.getD k 0))=l.map g:=by
 apply List.ext_getElem
 ·simp
 ·intro i h1 h2
  simp only[List.length_map,List.length_range]at h1
  simp[List.getElem_map,List.getElem_range,List.getD_eq_getElem?_getD,List.getElem?_eq_getElem h1]
end Go.Proofs.YtibemcgdmembeaaGreat
namespace Go.Proofs.YtibemcgdmembeaaGreat
open Go.RowKit
def af.meas(s:af)(c:Int):Int:=(s.row.length:Int)+s.y.cu+c*(s.y.ou-s.copied)
theorem abV{s:af}{cur az:List Int}{E F:Int->Prop}(I:Inv s cur az E F)(hmv:s.aG=true){c:Int}(hc:c=1∨c=2){r:Int}(hr:b_ s cur az r):(s.move r).meas c<=s.meas c:=by
 rw[af.move]
 split
 ·exact Int.le_refl _
 ·rename_i h0
  split
  ·rename_i hn
   have ho:r∈az:=by
    rcases hr with h|h|h|h
    ·exact absurd (.inl h) h0
    ·exact absurd (.inr (I.lay.jl (.inl h))) h0
    ·exact absurd (.inr (I.lay.fK (.inl h))) h0
    ·exact h
   have hw:bH s.ws r=r:=by rw[<-I.lay.iw ho];exact hn
   obtain⟨cur',M,I',hm,hT⟩:=vz I hmv ho hw
   obtain⟨o1,o2,o3,o4,o5,o6,o7,o8,o9,RP,KX⟩:=kM s r
   obtain⟨n1,n2,n3,n4,n5,n6,n7,n8,n9,n10⟩:=I.lay.nums
   have YG:=Bz I.lay.ro ho hw
   have hgl:=rP I.lay.ro
   have hcp:=I.hds.cp
   obtain⟨b1,b2,b3,b4,b5⟩:=aA s.ws r
   have Vm:(s.moved r).copied=s.copied+(ag s.ws r).words:=by
    rw[RP]
    exact pq ⟨by omega,by omega⟩
   unfold af.meas
   rw[M.y.2.1,M.y.2.2,Vm,KX]
   rcases hc with rfl|rfl
   ·cases hO:s.lD r
    ·simp
     omega
    ·simp
     omega
   ·cases hO:s.lD r
    ·simp
     omega
    ·simp
     omega
  ·exact Int.le_refl _
theorem abq{s:af}{cur az:List Int}{E F:Int->Prop}(I:Inv s cur az E F)(hmv:s.aG=true){c:Int}(hc:c=1∨c=2){a:Int}(ha:jI s cur E a): ∀j:Nat,(j:Int)<=(ag s.ws a).ptrs->(s.jb a j).meas c<=s.meas c
 |0,_=>Int.le_refl _
 |j+1,hj=>by
  have ih:=abq I hmv hc ha j (by omega)
  obtain⟨c1,R⟩:=Fj I hmv ha j (by omega)
  have ha1:jI (s.jb a j) c1 E a:=by
   rcases ha with h|⟨h,h2⟩
   ·exact .inl (R.mono a h)
   ·exact .inr ⟨by rw[R.old a h];exact h,h2⟩
  have h1:=abV R.inv (R.aG.trans hmv) hc (R.inv.qw ha1 (k:=(j:Int)) (by omega) (by rw[R.head];omega))
  have h2:((s.jb a j).dV a j).meas c=((s.jb a j).move (aQ (s.jb a j).ws a j)).meas c:=by
   unfold af.dV
   split<;>rfl
  show((s.jb a j).dV a j).meas c<=s.meas c
  omega
theorem ZU{s:af}{cur az:List Int}{E F:Int->Prop}(I:Inv s cur az E F)(hmv:s.aG=true){c:Int}(hc:c=1∨c=2){a:Int}(ha:jI s cur E a):(s.through a).meas c<=s.meas c:=by
 have hp:((s.bQ a:Nat):Int)=(ag s.ws a).ptrs:=by
  have:=(aA s.ws a).2.2.2.1
  unfold af.bQ
  omega
 have h1:=abq I hmv hc ha (s.bQ a) (by omega)
 unfold af.through
 split
 ·obtain⟨m1,m2,m3,m4,m5,m6,m7,m8,m9,m10,m11,m12,m13⟩:=jm (s.jb a (s.bQ a)) a
  have:((s.jb a (s.bQ a)).note a).meas c=(s.jb a (s.bQ a)).meas c:=by
   unfold af.meas
   rw[m8,m9,m11]
  omega
 ·exact h1
end Go.Proofs.YtibemcgdmembeaaGreat
namespace Go.Proofs.YtibemcgdmembeaaGreat
open Go.RowKit
theorem abH(s:af)(n g:Int):(s.placed n g).y.now=s.y.now/\ (s.placed n g).y.f0=s.y.f0/\ (s.placed n g).y.f1=s.y.f1:=by
 unfold af.placed
 split
 ·exact⟨rfl,rfl,rfl⟩
 ·unfold aJ.take
  dsimp only
  split
  ·split<;>exact⟨rfl,rfl,rfl⟩
  ·exact⟨rfl,rfl,rfl⟩
theorem acR(s:af)(r:Int):(s.move r).y.cf=s.y.cf/\ (s.move r).r=s.r:=by
 unfold af.move
 split
 ·exact⟨rfl,rfl⟩
 ·split
  ·obtain⟨h1,h2,h3⟩:=abH s (ag s.ws r).words (s.oW r)
   have e:(s.moved r).y=(s.placed (ag s.ws r).words (s.oW r)).y:=rfl
   refine⟨?_,(kM s r).2.1⟩
   unfold aJ.cf
   rw[e,h1,h2,h3]
  ·exact⟨rfl,rfl⟩
theorem acA(s:af)(a:Int): ∀j,(s.jb a j).y.cf=s.y.cf/\ (s.jb a j).r=s.r
 |0=>⟨rfl,rfl⟩
 |j+1=>by
  obtain⟨h1,h2⟩:=acA s a j
  obtain⟨g1,g2⟩:=acR (s.jb a j) (aQ (s.jb a j).ws a j)
  have e1:((s.jb a j).dV a j).y=((s.jb a j).move (aQ (s.jb a j).ws a j)).y:=by unfold af.dV;split<;>rfl
  have e2:((s.jb a j).dV a j).r=((s.jb a j).move (aQ (s.jb a j).ws a j)).r:=by unfold af.dV;split<;>rfl
  show((s.jb a j).dV a j).y.cf=_/\ ((s.jb a j).dV a j).r=_
  rw[e1,e2,g1,g2]
  exact⟨h1,h2⟩
theorem aa6(s:af)(a:Int):(s.through a).y.cf=s.y.cf/\ (s.through a).r.tb=s.r.tb/\ (s.through a).r.tc=s.r.tc:=by
 obtain⟨h1,h2⟩:=acA s a (s.bQ a)
 unfold af.through
 split
 ·obtain⟨m1,m2,m3,m4,m5,m6,m7,m8,m9,m10,m11,m12,m13⟩:=jm (s.jb a (s.bQ a)) a
  refine⟨by rw[m9];exact h1, ?_⟩
  unfold af.note
  split
  ·obtain⟨a1,a2,a3,a4,a5,a6,_⟩:=add_same (s.jb a (s.bQ a)).r a
   show((s.jb a (s.bQ a)).r.add a).tb=_/\ ((s.jb a (s.bQ a)).r.add a).tc=_
   rw[a5,a6,h2]
   exact⟨rfl,rfl⟩
  ·rw[h2]
   exact⟨rfl,rfl⟩
 ·rw[h2]
  exact⟨h1,rfl,rfl⟩
end Go.Proofs.YtibemcgdmembeaaGreat
namespace Go.Proofs.YtibemcgdmembeaaGreat
open Go.RowKit
theorem Z7{s:af}{cur az:List Int}{E F:Int->Prop}(I:Inv s cur az E F)(hmv:s.aG=true){c:Int}(hc:c=1∨c=2)(a:Int):(s.fD a).meas c<=s.meas c/\ (s.fD a).y.cf=s.y.cf/\ (s.fD a).r.tb=s.r.tb/\ (s.fD a).r.tc=s.r.tc:=by
 unfold af.fD
 by_cases hq:s.iV a=true
 ·rw[if_pos hq]
  have ha:(s.o.aH a).isSome=true:=by
   unfold af.iV at hq
   rw[Bool.and_eq_true]at hq
   exact hq.1
  obtain⟨I1,_⟩:=sS (E':=fun b=>E b∨b=a) (F':=F) I ha (fun b h=> .inl h) (.inr rfl) (fun _ _ h=>h)
  have hL:jI (s.dL a) cur (fun b=>E b∨b=a) a:= .inr ⟨ha, .inr rfl⟩
  have h1:=ZU I1 (show(s.dL a).aG=true from hmv) hc hL
  obtain⟨h2,h3,h4⟩:=aa6 (s.dL a) a
  exact⟨h1,h2,h3,h4⟩
 ·rw[if_neg hq]
  exact⟨Int.le_refl _,rfl,rfl,rfl⟩
theorem aah{az:List Int}{c:Int}(hc:c=1∨c=2): ∀(l:List Int) {s:af} {cur:List Int},Inv s cur az (fun b=>b∈l/\ (ag s.ws b).aY=true) (fun b=>b∈l)->s.aG=true->(∀b∈l,(s.o.aH b).isSome=true)->
  (s.iF l).meas c<=s.meas c/\ (s.iF l).y.cf=s.y.cf/\ (s.iF l).r.tb=s.r.tb/\ (s.iF l).r.tc=s.r.tc
 |[],s,cur,_,_,_=>⟨Int.le_refl _,rfl,rfl,rfl⟩
 |a::l,s,cur,I,hmv,ho=>by
  obtain⟨hok,c1,I1,M⟩:=yQ (a:=a) (E':=fun b=>b≠a/\b∈l/\ (ag s.ws b).aY=true) (F':=fun b=>b∈l) I hmv (fun _ h=>h.2)
   (fun b hb h=>⟨hb,(List.mem_cons.1 h.1).resolve_left hb,h.2⟩) (fun b hb h=>(List.mem_cons.1 h).resolve_left hb)
  have hds: ∀b∈l,b≠a->ag (s.fD a).ws b=ag s.ws b:=fun b hb hba=>M.others b hba (.inr (ho b (List.mem_cons_of_mem _ hb)))
  obtain⟨h1,h2,h3,h4⟩:=Z7 I hmv hc a
  obtain⟨g1,g2,g3,g4⟩:=aah hc l (s:=s.fD a) (cur:=c1) (I1.weak (fun b h=>⟨h.2.1,by rw[hds b h.2.1 h.1];exact h.2.2⟩) (fun _ h=>h)) (M.aG.trans hmv)
   (fun b hb=>by rw[M.old b (ho b (List.mem_cons_of_mem _ hb))];exact ho b (List.mem_cons_of_mem _ hb))
  show((s.fD a).iF l).meas c<=s.meas c/\ ((s.fD a).iF l).y.cf=s.y.cf/\ ((s.fD a).iF l).r.tb=s.r.tb/\ ((s.fD a).iF l).r.tc=s.r.tc
  exact⟨by omega,g2.trans h2,g3.trans h3,g4.trans h4⟩
theorem abr{s:af}{cur az:List Int}(I:Inv s cur az gq gq)(hmv:s.aG=true){c:Int}(hc:c=1∨c=2)(hr:0<s.row.length):s.rF.meas c<=s.meas c-1/\s.rF.y.cf=s.y.cf/\s.rF.r.tb=s.r.tb/\s.rF.r.tc=s.r.tc:=by
 have I1:Inv s.mY cur az (fun b=>b=s.h_) gq:=Ed I (fun b h=>h.elim) (fun _=>rfl)
 have hu:s.mY.meas c=s.meas c-1:=by
  show(s.row.tail.length:Int)+s.y.cu+c*(s.y.ou-s.copied)=(s.row.length:Int)+s.y.cu+c*(s.y.ou-s.copied)-1
  rw[List.length_tail]
  omega
 unfold af.rF
 by_cases ha:(s.o.aH s.h_).isSome=true
 ·rw[if_pos ha]
  have h1:=ZU I1 (show s.mY.aG=true from hmv) hc (a:=s.h_) (.inr ⟨ha,rfl⟩)
  obtain⟨h2,h3,h4⟩:=aa6 s.mY s.h_
  exact⟨by omega,h2,h3,h4⟩
 ·rw[if_neg ha]
  exact⟨by omega,rfl,rfl,rfl⟩
end Go.Proofs.YtibemcgdmembeaaGreat
namespace Go.Proofs.YtibemcgdmembeaaGreat
open Go.RowKit
def af.todo(s:af):Int:=s.meas 2+s.y.cf-s.scan+s.r.tb.list.length+jE s.r.tc.marks
theorem aaE: ∀{l:List Bool} {n k:Nat},firstT l k=some n->jE (l.set (n-k) false)+1=jE l
 |[],_,_,h=>by cases h
 |b::l,n,k,h=>by
  unfold firstT at h
  split at h
  ·rename_i hb
   cases h
   subst hb
   simp[jE]
  ·rename_i hb
   have hb':b=false:=by simpa using hb
   subst hb'
   have h1:=(qZ l (k+1) n h).1
   have ih:=aaE h
   have e:n-k=(n-(k+1))+1:=by omega
   rw[e,List.set_cons_succ]
   unfold jE at ih⊢
   simpa using ih
theorem aai{s:af}{cur az:List Int}(I:Inv s cur az gq gq)(hB:s.qf=true):s.eG.todo<s.todo:=by
 have key:og s.which=true->(s.stepOf s.which).todo<s.todo:=by
  unfold af.which
  by_cases hmv:s.aG=false
  ·rw[if_pos hmv]
   intro h;cases h
  ·rw[if_neg hmv]
   have G6:s.aG=true:=by simpa using hmv
   by_cases hr:0<s.row.length
   ·rw[if_pos hr]
    intro _
    obtain⟨h1,h2,h3,h4⟩:=abr I G6 (c:=2) (.inr rfl) hr
    obtain⟨_,c1,I2,m,q1,q2,q3,q4,q5,q6⟩:=K_ I G6
    show s.rF.todo<s.todo
    unfold af.todo
    rw[h2,h3,h4,q6]
    omega
   ·rw[if_neg hr]
    cases hx:s.r.tb.list with
    |cons x l=>
     intro _
     obtain⟨_,c1,I2,m,k,q5,q6⟩:=La I G6 hx
     obtain⟨h1,h2,h3,h4⟩:=Z7 (JJ I G6 hx) G6 (c:=2) (.inr rfl) x
     have e1:s.fV.meas 2=s.meas 2:=rfl
     have e2:s.fV.y.cf=s.y.cf:=rfl
     have e3:s.fV.r.tb.list.length+1=s.r.tb.list.length:=by
      show s.r.tb.list.tail.length+1=_
      rw[hx]
      rfl
     have e4:s.fV.r.tc=s.r.tc:=rfl
     show(s.fV.fD x).todo<s.todo
     unfold af.todo
     rw[h2,h3,h4,q6,e4,e2]
     omega
    |nil=>
     cases hf:s.r.tc.first with
     |some n=>
      intro _
      obtain⟨_,c1,I2,m,k,q5,q6⟩:=G5 I G6 hx n
      obtain⟨IP,ho⟩:=G8 I G6 hx n
      obtain⟨h1,h2,h3,h4⟩:=aah (c:=2) (.inr rfl) (s.bF n) IP G6 ho
      have e1:(s.fB n).meas 2=s.meas 2:=rfl
      have e2:(s.fB n).y.cf=s.y.cf:=rfl
      have e3:(s.fB n).r.tb.list.length=s.r.tb.list.length:=by
       show s.r.tb.list.tail.length=_
       rw[hx]
       rfl
      have e4:jE (s.fB n).r.tc.marks+1=jE s.r.tc.marks:=aaE (k:=0) hf
      show((s.fB n).iF (s.bF n)).todo<s.todo
      unfold af.todo
      rw[h2,h3,h4,q6,e2]
      omega
     |none=>
      by_cases hs':s.pR=true
      ·simp only[hs',if_true]
       intro _
       obtain⟨hsc,c1,L,I2,hq⟩:=BB I G6 hs'
       have h1:=ZU I G6 (c:=2) (.inr rfl) (E:=gq) (.inl hsc)
       obtain⟨h2,h3,h4⟩:=aa6 s s.scan
       have hw:=(aA s.ws s.scan).1
       have e1:s.vY.meas 2=(s.through s.scan).meas 2:=rfl
       have e2:s.vY.y.cf=(s.through s.scan).y.cf:=rfl
       have e3:s.vY.r=(s.through s.scan).r:=rfl
       show s.vY.todo<s.todo
       unfold af.todo
       rw[hq,e1,e2,e3,h2,h3,h4]
       omega
      ·simp only[hs']
       intro h;cases h
 exact key hB
theorem Zu{s:af}{cur az:List Int}{E F:Int->Prop}(I:Inv s cur az E F)(hmv:s.aG=true):0<=s.todo/\2*s.todo<=7*s.C.aU+2*(s.r.tb.list.length+s.r.tc.marks.length):=by
 obtain⟨n1,n2,n3,n4,n5,n6,n7,n8,n9,n10⟩:=I.lay.nums
 have hgl:=rP I.lay.ro
 have hcp:=I.hds.cp
 have hrl:=I.hds.rl
 obtain⟨c1,c2⟩:=I.hds.sc hmv
 have hc:=DW s.r.tc.marks
 have hs:s.scan<=s.y.cf+s.y.cu:=by
  rcases c2 with h|h
  ·omega
  ·have:=I.lay.lT h
   have:=(aA s.ws s.scan).1
   omega
 unfold af.todo af.meas
 omega
end Go.Proofs.YtibemcgdmembeaaGreat
namespace Go.Proofs.YtibemcgdmembeaaGreat
open Go.RowKit
theorem RZ{s:af}{cur az:List Int}{E F:Int->Prop}(I:Inv s cur az E F):s.oO<=1100000:=by
 unfold af.oO
 cases hq:s.which with
 |none=>simp[af.fZ]
 |finish=>simp[af.fZ]
 |row=>have:=qo s;simp only[af.fZ];omega
 |buf x=>have:=kz s.fV x;simp only[af.fZ];omega
 |card n=>
  have h1:=(kZ (s.bF n) (s.fB n)).2
  have h2:=jO I.lay.ov.ok (s.r.tc.lI n) (s.r.tc.lJ n) s.o.pages.length
  have h3:(s.bF n).length<=s.o.pages.length*256:=h2
  have h4:=I.lay.ol
  have h5:=I.lay.cf.p2
  simp only[af.fZ]
  omega
 |scan=>have:=sQ s;simp only[af.fZ];omega
theorem acB: ∀(k:Nat) {s:af} {cur az:List Int} (_:Inv s cur az gq gq) (d work:Int),(s.aG=true->d+(s.todo+1)*1100000<=1000000000000)->(s.aG=false->d+1100000<=1000000000000)->s.GM k d work
 |0,_,_,_,_,_,_,_,_=>trivial
 |k+1,s,cur,az,I,d,work,h1,h2=>by
  intro _
  obtain⟨hok,c1,o1,I1,K,hm⟩:=PW I
  have hn:=RZ I
  have hb:d+s.oO<=1000000000000:=by
   cases hmv:s.aG with
   |true=>
    have:=h1 hmv
    have:=(Zu I hmv).1
    omega
   |false=>
    have:=h2 hmv
    omega
  refine⟨hok,hb,fun hB=> ?_⟩
  have ht:=aai I hB
  have hmv:s.aG=true:=by
   cases hmv:s.aG with
   |true=>rfl
   |false=>
    have:s.qf=false:=by unfold af.qf af.which;rw[if_pos hmv];rfl
    rw[this]at hB
    cases hB
  have:=h1 hmv
  obtain⟨_,_,hm3⟩:=hm hB
  refine acB k I1 _ work (fun _=>by omega) (fun h=> ?_)
  rw[hm3]at h
  cases h
end Go.Proofs.YtibemcgdmembeaaGreat
namespace Go.Proofs.YtibemcgdmembeaaGreat
open Go.RowKit
theorem abt{s:af}(h:s.qf=true):s.aG=true:=by
 cases hmv:s.aG with
 |true=>rfl
 |false=>
  have:s.qf=false:=by unfold af.qf af.which;rw[if_pos hmv];rfl
  rw[this]at h
  cases h
theorem abu: ∀(k:Nat) {s:af} {cur az:List Int} (_:Inv s cur az gq gq) (d work:Int),(s.aG=true->s.todo+2<=k)->2<=k-> ∃s' d',s.vO k d work=some (s',d')
 |0,_,_,_,_,_,_,_,h=>absurd h (by omega)
 |k+1,s,cur,az,I,d,work,h1,h2=>by
  unfold af.vO
  split
  ·by_cases hB:s.qf=true
   ·rw[if_pos hB]
    obtain⟨_,c1,o1,I1,K,hm⟩:=PW I
    have hmv:=abt hB
    have ht:=aai I hB
    have hb:=(Zu I1 (hm hB).2.2).1
    have:=h1 hmv
    exact abu k I1 _ work (fun _=>by omega) (by omega)
   ·rw[if_neg hB]
    exact⟨_,_,rfl⟩
  ·exact⟨_,_,rfl⟩
end Go.Proofs.YtibemcgdmembeaaGreat
namespace Go.Proofs.YtibemcgdmembeaaGreat
open Go.RowKit
theorem zD{l:List Int}{i v:Int}(j:Nat)(hj:j<l.length):(bP l i v).getD j 0=if(j:Int)=i then v else l.getD j 0:=by
 by_cases h:0<=i/\i<l.length
 ·have:=wU (l:=l) (i:=i.toNat) (v:=v) (by omega) j
  rw[show((i.toNat:Nat):Int)=i by omega]at this
  rw[this]
  by_cases e:(j:Int)=i
  ·rw[if_pos e,if_pos (by omega)]
  ·rw[if_neg e,if_neg (by omega)]
 ·have e1:bP l i v=l:=by
   unfold bP bY
   rw[if_neg (by simpa using h)]
  rw[e1,if_neg (by omega)]
theorem Rep.setH{s:af}{cur az:List Int}{N:Int->dB}{hs:List Int}{K:Int->Prop}{loc:Int->Int}(R:Rep s cur az N hs K loc)(i v n:Int)(hn:n=0∨K n)(hv:s.now v=loc n):Rep {s with t:=bP s.t i v} cur az N (bP hs i n) K loc:=by
 refine⟨R.k0,R.l0,R.inj,R.pl,R.sz,R.pn,R.pk,R.pt,R.sc, ?_, ?_, ?_⟩
 ·show(bP hs i n).length=(bP s.t i v).length
  rw[nS,nS]
  exact R.hl
 ·intro x hx
  rcases sV hx with h|h
  ·exact R.hk x h
  ·rw[h]
   exact hn
 ·intro j hj
  rw[nS]at hj
  show s.now ((bP s.t i v).getD j 0)=loc ((bP hs i n).getD j 0)
  rw[zD j (by rw[<-R.hl];exact hj),zD j hj]
  split
  ·exact hv
  ·exact R.hv j hj
end Go.Proofs.YtibemcgdmembeaaGreat
namespace Go.Proofs.YtibemcgdmembeaaGreat
open Go.RowKit
theorem Inv.heads{s s':af}{cur az:List Int}{E F:Int->Prop}(I:Inv s cur az E F)(eC:s'.C=s.C)(ey:s'.y=s.y)(eo:s'.o=s.o)(er:s'.r=s.r)(ep:s'.parity=0∨s'.parity=1)(em:s'.aG=s.aG)(es:s'.scan=s.scan)(ec:s'.copied=s.copied)(ew:s'.row=s.row)(hl:s'.ws.length=s.ws.length)
  (h: ∀b,gQ s cur az b->lq (rd s'.ws b)=true/\ (ag s'.ws b).size=(ag s.ws b).size/\ (ag s'.ws b).ptrs=(ag s.ws b).ptrs/\ (ag s'.ws b).old=(ag s.ws b).old/\ (ag s'.ws b).aY=(ag s.ws b).aY/\bH s'.ws b=bH s.ws b/\ ∀k:Int,0<=k->k<(ag s.ws b).ptrs->aQ s'.ws b k=aQ s.ws b k):Inv s' cur az E F:=by
 obtain⟨l,H,R,RO⟩:=I
 have hwd: ∀b,gQ s cur az b->(ag s'.ws b).words=(ag s.ws b).words:=fun b hb=>by
  have:=(h b hb).2.1
  unfold Hd.words
  rw[this]
 have hC: ∀b,bV s' b↔bV s b:=fun b=>by unfold bV;simp only[hl,eC]
 have hT: ∀b,s'.dW b↔s.dW b:=fun b=>by unfold af.dW;rw[er]
 have hN: ∀b,s'.jH b↔s.jH b:=fun b=>by unfold af.jH;rw[er]
 refine⟨⟨by rw[eC];exact l.cf,by rw[eo];exact l.ov,by rw[eo,eC];exact l.ob,by rw[eo,eC];exact l.ow,by rw[eo,eC];exact l.ol,by rw[ey];exact l.f0,by rw[ey,eC];exact l.f1,by rw[ey,eC];exact l.yw,by rw[ey,eC];exact l.u0,by rw[ey,eC];exact l.u1,by rw[hl,eC];exact l.wl, ?_, ?_, ?_⟩,⟨ep, ?_, ?_, ?_, ?_,by rw[em,ey,ec];exact H.rm,by rw[em];exact H.nm,by rw[em,ey,es];exact H.sc,by rw[ew,ec];exact H.rl,by rw[ew];exact H.ri⟩,⟨?_, ?_, ?_, ?_,by rw[em,er];exact R.tn⟩,RO.same er eC⟩
 ·rw[ey];exact l.rc.frame fun b hb=>hwd b (.inl hb)
 ·rw[ey];exact l.ro.frame fun b hb=>hwd b (.inr (.inl hb))
 ·intro b z hz
  rw[eo]at hz⊢
  rw[hwd b (.inr (.inr (by rw[hz];rfl)))]
  exact l.fit b z hz
 ·intro b hb
  obtain⟨q1,q2,q3,q4,q5,q6,q7⟩:=h b (.inl hb)
  rw[q4,q5,q6]
  exact⟨q1,(H.Dv b hb).2⟩
 ·intro b hb
  obtain⟨q1,q2,q3,q4,q5,q6,q7⟩:=h b (.inr (.inl hb))
  rw[q4,q5,q6,hC]
  exact⟨q1,(H.Fg b hb).2⟩
 ·intro b hb
  rw[eo]at hb
  obtain⟨q1,q2,q3,q4,q5,q6,q7⟩:=h b (.inr (.inr hb))
  rw[q4,q6]
  exact⟨q1,(H.Dw b hb).2⟩
 ·rw[ec,H.cp]
  exact(mg fun b hb=>⟨(h b (.inr (.inl hb))).2.2.2.2.2.1,hwd b (.inr (.inl hb))⟩).symm
 ·intro b hb k k0 k1
  obtain⟨q1,q2,q3,q4,q5,q6,q7⟩:=h b (.inl hb)
  rw[q3]at k1
  rw[q7 k k0 k1]
  unfold Dx
  rw[hC,em,es]
  exact R.rC b hb k k0 k1
 ·intro b hb k k0 k1
  obtain⟨q1,q2,q3,q4,q5,q6,q7⟩:=h b (.inr (.inl hb))
  rw[q3]at k1
  rw[q7 k k0 k1]
  unfold Dy
  rw[hC]
  exact R.rO b hb k k0 k1
 ·intro b hb k k0 k1
  rw[eo]at hb
  obtain⟨q1,q2,q3,q4,q5,q6,q7⟩:=h b (.inr (.inr hb))
  rw[q3]at k1
  rw[q7 k k0 k1]
  unfold JD
  rw[hC,em,q5,ew,hT]
  exact R.rM b hb k k0 k1
 ·intro b hb hn
  rw[eo]at hb
  obtain⟨q1,q2,q3,q4,q5,q6,q7⟩:=h b (.inr (.inr hb))
  rw[q5]at hn
  rw[hN,hT]
  exact R.nt b hb hn
structure iW(s s':af)(cur az:List Int)(a:Int):Prop where
 C:s'.C=s.C
 y:s'.y=s.y
 o:s'.o=s.o
 r:s'.r=s.r
 t:s'.t=s.t
 parity:s'.parity=s.parity
 phase:s'.phase=s.phase
 aG:s'.aG=s.aG
 scan:s'.scan=s.scan
 copied:s'.copied=s.copied
 look:s'.look=s.look
 row:s'.row=s.row
 done:s'.done=s.done
 wl:s'.ws.length=s.ws.length
 rest: ∀p,p≠a->rd s'.ws p=rd s.ws p
 hd:(ag s'.ws a).size=(ag s.ws a).size/\ (ag s'.ws a).ptrs=(ag s.ws a).ptrs/\ (ag s'.ws a).nZ=(ag s.ws a).nZ/\ (ag s'.ws a).old=(ag s.ws a).old/\ (ag s'.ws a).aY=(ag s.ws a).aY
theorem yR{s:af}{cur az:List Int}{E F:Int->Prop}(I:Inv s cur az E F){a:Int}(ha:gQ s cur az a)(g':bZ)(par:Int)(hp:par=0∨par=1)(gr:Bool):
  iW s {s with ws:=iQ s.ws a {ag s.ws a with parity:=par,dh:=gr}.enc,g:=g'} cur az a/\ag (iQ s.ws a {ag s.ws a with parity:=par,dh:=gr}.enc) a={ag s.ws a with parity:=par,dh:=gr}/\lq (rd (iQ s.ws a {ag s.ws a with parity:=par,dh:=gr}.enc) a)=true:=by
 obtain⟨p1,p2,p3,p4⟩:=I.lay.pos ha
 obtain⟨b1,b2,b3,b4,b5⟩:=aA s.ws a
 have hg:({ag s.ws a with parity:=par,dh:=gr}:Hd).Good:=by
  obtain⟨g1,g2,g3,g4,g5,g6,g7⟩:=dU (oU s.ws a)
  exact⟨g1,g2,g3,g4,g5,g6,hp⟩
 have hrd:=fun j=>vZ (ws:=s.ws) (i:=a) (by omega) (by omega) ({ag s.ws a with parity:=par,dh:=gr}:Hd).enc j
 have e1:rd (iQ s.ws a {ag s.ws a with parity:=par,dh:=gr}.enc) a={ag s.ws a with parity:=par,dh:=gr}.enc:=by rw[hrd,if_pos rfl]
 have e2:ag (iQ s.ws a {ag s.ws a with parity:=par,dh:=gr}.enc) a={ag s.ws a with parity:=par,dh:=gr}:=by rw[dX,e1,Aj hg]
 refine⟨⟨rfl,rfl,rfl,rfl,rfl,rfl,rfl,rfl,rfl,rfl,rfl,rfl,rfl,iC ..,fun p hp=>by rw[hrd,if_neg hp], ?_⟩,e2,by rw[e1,rJ hg]⟩
 show(ag (iQ s.ws a _) a).size=_/\_
 rw[e2]
 exact⟨rfl,rfl,rfl,rfl,rfl⟩
theorem iW.at{s s':af}{cur az:List Int}{E F:Int->Prop}{a:Int}(I:Inv s cur az E F)(ha:gQ s cur az a)(M:iW s s' cur az a){b:Int}(hb:gQ s cur az b):
  (ag s'.ws b).size=(ag s.ws b).size/\ (ag s'.ws b).ptrs=(ag s.ws b).ptrs/\ (ag s'.ws b).nZ=(ag s.ws b).nZ/\ (ag s'.ws b).old=(ag s.ws b).old/\ (ag s'.ws b).aY=(ag s.ws b).aY/\bH s'.ws b=bH s.ws b/\ (∀k:Int,0<=k->k<(ag s.ws b).ptrs->aQ s'.ws b k=aQ s.ws b k)/\
  (∀k:Int,0<=k->k<(ag s.ws b).size->rd s'.ws (b+2+k)=rd s.ws (b+2+k))/\ (b≠a->rd s'.ws b=rd s.ws b/\ag s'.ws b=ag s.ws b):=by
 obtain⟨p1,p2,p3,p4⟩:=I.lay.pos ha
 obtain⟨q1,q2,q3,q4⟩:=I.lay.pos hb
 obtain⟨b1,b2,b3,b4,b5⟩:=aA s.ws a
 obtain⟨c1,c2,c3,c4,c5⟩:=aA s.ws b
 have P6: ∀k:Int,1<=k->k<(ag s.ws b).words->b+k≠a:=by
  intro k k1 k2 e
  by_cases hba:b=a
  ·omega
  ·have:=I.lay.apart hb ha hba
   omega
 have hf: ∀k:Int,0<=k->k<(ag s.ws b).size->rd s'.ws (b+2+k)=rd s.ws (b+2+k):=by
  intro k k0 k1
  have:=P6 (2+k) (by omega) (by omega)
  rw[show b+2+k=b+(2+k) by omega]
  exact M.rest _ this
 have hw:bH s'.ws b=bH s.ws b:=by
  rw[f_ (by omega) q3,f_ (by omega) q3,M.rest _ (P6 1 (by omega) (by omega))]
 have hr: ∀k:Int,0<=k->k<(ag s.ws b).ptrs->aQ s'.ws b k=aQ s.ws b k:=by
  intro k k0 k1
  rw[dR (by omega) q3 k0 (by omega),dR (by omega) q3 k0 (by omega),hf k k0 (by omega)]
 by_cases e:b=a
 ·subst e
  exact⟨M.hd.1,M.hd.2.1,M.hd.2.2.1,M.hd.2.2.2.1,M.hd.2.2.2.2,hw,hr,hf,fun h=>absurd rfl h⟩
 ·have e1:=M.rest b e
  have e2:ag s'.ws b=ag s.ws b:=by rw[dX,dX,e1]
  rw[e2]
  exact⟨rfl,rfl,rfl,rfl,rfl,hw,hr,hf,fun _=>⟨e1,rfl⟩⟩
theorem iW.inv{s s':af}{cur az:List Int}{E F:Int->Prop}{a:Int}(I:Inv s cur az E F)(ha:gQ s cur az a)(M:iW s s' cur az a)(hh:lq (rd s'.ws a)=true):Inv s' cur az E F:=by
 have hd0: ∀b,gQ s cur az b->lq (rd s.ws b)=true:=by
  intro b hb
  rcases hb with hb|hb|hb
  ·exact(I.hds.Dv b hb).1
  ·exact(I.hds.Fg b hb).1
  ·exact(I.hds.Dw b hb).1
 refine I.heads M.C M.y M.o M.r (by rw[M.parity];exact I.hds.par) M.aG M.scan M.copied M.row M.wl ?_
 intro b hb
 obtain⟨c1,c2,c3,c4,c5,c6,c7,c8,c9⟩:=M.at I ha hb
 refine⟨?_,c1,c2,c4,c5,c6,c7⟩
 by_cases e:b=a
 ·rw[e];exact hh
 ·rw[(c9 e).1];exact hd0 b hb
theorem iW.now{s s':af}{cur az:List Int}{E F:Int->Prop}{a:Int}(I:Inv s cur az E F)(ha:gQ s cur az a)(M:iW s s' cur az a){x:Int}(hx:b_ s cur az x):s'.now x=s.now x:=
 m_ I.lay M.y (fun b hb=>(M.at I ha (.inr (.inl hb))).2.2.2.2.2.1) hx
theorem iW.rep{s s':af}{cur az:List Int}{E F:Int->Prop}{a:Int}(I:Inv s cur az E F)(ha:gQ s cur az a)(M:iW s s' cur az a){N:Int->dB}{hs:List Int}{K:Int->Prop}{loc:Int->Int}(R:Rep s cur az N hs K loc)(ht: ∀x∈s.t,b_ s cur az x):Rep s' cur az N hs K loc:=by
 refine R.keep (fun _ h=>h) (fun b h=>by rw[M.o];exact h) (fun b hb=>(M.at I ha (.inr (.inl hb))).2.2.2.2.2.1) ?_ (by rw[M.t]) ?_
 ·intro b hb
  obtain⟨c1,c2,c3,c4,c5,c6,c7,c8,c9⟩:=M.at I ha hb.kE
  have:=(aA s.ws b).2.2.2.1
  refine⟨c1,c2,fun k k0 k1=>c8 k (by omega) k1,fun k k0 k1=> ?_⟩
  rw[c7 k k0 k1]
  exact M.now I ha (I.jF hb.kE k0 k1)
 ·intro j hj
  rw[M.t]
  exact M.now I ha (ht _ (fE hj))
theorem iW.hdl{s s':af}{cur az:List Int}{a:Int}(M:iW s s' cur az a)(h:iy s cur):iy s' cur:=by
 intro x hx
 rw[M.t]at hx
 have:=h x hx
 unfold bT bV at this⊢
 rw[M.C,M.wl]
 exact this
theorem P7{s:af}{cur az:List Int}{E F:Int->Prop}(I:Inv s cur az E F){i:Int}(hi:i≠0->gQ s cur az (s.now i)):s.mark i=s∨(gQ s cur az (s.now i)/\iW s (s.mark i) cur az (s.now i)/\lq (rd (s.mark i).ws (s.now i))=true):=by
 unfold af.mark
 by_cases hm:s.qL i=true
 ·rw[if_pos hm]
  have hi0:i≠0:=by
   intro e
   subst e
   simp[af.qL]at hm
  obtain⟨h1,h2,h3⟩:=yR I (hi hi0) (s.g.push (s.now i)) s.parity I.hds.par true
  exact .inr ⟨hi hi0,h1,h3⟩
 ·rw[if_neg hm]
  exact .inl rfl
theorem JL{s:af}{cur az:List Int}{E F:Int->Prop}(I:Inv s cur az E F){i:Int}(hi:i≠0->gQ s cur az (s.now i)){N:Int->dB}{hs:List Int}{K:Int->Prop}{loc:Int->Int}(R:Rep s cur az N hs K loc)(ht:iy s cur):
  Inv (s.mark i) cur az E F/\Rep (s.mark i) cur az N hs K loc/\iy (s.mark i) cur/\ (s.mark i).C=s.C/\ (s.mark i).t=s.t/\ (s.mark i).ws.length=s.ws.length/\ (s.mark i).y=s.y/\ (s.mark i).aG=s.aG/\ (s.mark i).phase=s.phase:=by
 rcases P7 I hi with h|⟨h1,h2,h3⟩
 ·rw[h]
  exact⟨I,R,ht,rfl,rfl,rfl,rfl,rfl,rfl⟩
 ·exact⟨h2.inv I h1 h3,h2.rep I h1 R ht.ok,h2.hdl ht,h2.C,h2.t,h2.wl,h2.y,h2.aG,h2.phase⟩
end Go.Proofs.YtibemcgdmembeaaGreat
namespace Go.Proofs.YtibemcgdmembeaaGreat
open Go.RowKit
structure Good(s:af)(cur az:List Int)(N:Int->dB)(hs:List Int)(K:Int->Prop)(loc:Int->Int):Prop where
 inv:Inv s cur az gq gq
 hdl:iy s cur
 rep:Rep s cur az N hs K loc
section
variable{s:af}{cur az:List Int}{N:Int->dB}{hs:List Int}{K:Int->Prop}{loc:Int->Int}
theorem Good.ok(G:Good s cur az N hs K loc)(i:Int):bY s.t i=bY hs i:=by
 unfold bY
 rw[G.rep.hl]
theorem rU{l:List Int}{i:Int}(h:bY l i=true):aB l i=l.getD i.toNat 0/\i.toNat<l.length:=by
 obtain⟨h0,h1⟩:=Ns.1 h
 unfold aB
 rw[if_pos h]
 exact⟨rfl,by omega⟩
theorem Good.get(G:Good s cur az N hs K loc)(i:Int):aB s.t i=loc (aB hs i):=by
 by_cases h:bY s.t i=true
 ·have h2:bY hs i=true:=by rw[<-G.ok];exact h
  obtain⟨e1,l1⟩:=rU h
  obtain⟨e2,l2⟩:=rU h2
  rw[e1,e2,<-G.rep.hv _ l2,G.inv.lay.bM (G.hdl _ (fE l1))]
 ·have h':bY s.t i=false:=by simpa using h
  rw[pV h',pV (by rw[<-G.ok];exact h'),G.rep.l0]
theorem Good.node(G:Good s cur az N hs K loc)(i:Int):aB hs i=0∨K (aB hs i):=by
 by_cases h:bY hs i=true
 ·obtain⟨e2,l2⟩:=rU h
  rw[e2]
  exact G.rep.hk _ (fE l2)
 ·exact .inl (pV (by simpa using h))
theorem Good.new(G:Good s cur az N hs K loc)(i:Int):bT s cur (aB s.t i):=by
 by_cases h:bY s.t i=true
 ·obtain⟨e2,l2⟩:=rU h
  rw[e2]
  exact G.hdl _ (fE l2)
 ·exact .inl (pV (by simpa using h))
theorem Good.zero(G:Good s cur az N hs K loc){n:Int}(hn:n=0∨K n):loc n=0↔n=0:=by
 constructor
 ·intro h
  rcases hn with hn|hn
  ·exact hn
  ·exact absurd h (G.inv.lay.not_zero (G.rep.pl n hn).kE)
 ·intro h
  rw[h,G.rep.l0]
theorem Good.same(G:Good s cur az N hs K loc){n m:Int}(hn:n=0∨K n)(hm:m=0∨K m):loc n=loc m↔n=m:=by
 refine⟨fun h=> ?_,fun h=>by rw[h]⟩
 rcases hn with rfl|hn
 ·rw[G.rep.l0]at h
  exact((G.zero hm).1 h.symm).symm
 ·rcases hm with rfl|hm
  ·rw[G.rep.l0]at h
   exact(G.zero (.inr hn)).1 h
  ·exact G.rep.inj n m hn hm h
theorem Good.stay(G:Good s cur az N hs K loc){n:Int}(hn:K n)(h:bT s cur (loc n)):loc n∈cur∨(s.o.aH (loc n)).isSome=true:=by
 rcases G.rep.pl n hn with h1|h1|⟨h1,h2⟩
 ·exact .inl h1
 ·exact .inr h1
 ·exfalso
  have hf:=G.inv.lay.gz h1
  rcases h with h|h|h
  ·exact G.inv.lay.not_zero (.inr (.inl h1)) h
  ·rw[G.inv.lay.jl (.inl h)]at hf;cases hf
  ·rw[G.inv.lay.fK (.inl h)]at hf;cases hf
def uf(hs:List Int)(i:Int):Int:=if bY hs i then(if aB hs i=0 then 4 else 0)else 3
theorem Good.fP(G:Good s cur az N hs K loc)(i:Int):s.fP i=uf hs i:=by
 unfold af.fP uf
 rw[G.ok,G.get]
 by_cases h:aB hs i=0
 ·rw[if_pos h,if_pos ((G.zero (G.node i)).2 h)]
 ·rw[if_neg h,if_neg (fun e=>h ((G.zero (G.node i)).1 e))]
theorem BH{hs:List Int}{i:Int}(h:uf hs i=0):bY hs i=true/\aB hs i≠0:=by
 unfold uf at h
 split at h
 ·rename_i h1
  split at h
  ·cases h
  ·rename_i h2
   exact⟨h1,h2⟩
 ·cases h
theorem Good.obj(G:Good s cur az N hs K loc){i:Int}(h:s.fP i=0):K (aB hs i)/\aB s.t i=loc (aB hs i)/\ (aB s.t i∈cur∨(s.o.aH (aB s.t i)).isSome=true)/\s.iO i=ag s.ws (aB s.t i)/\
  (s.iO i).size=((N (aB hs i)).ptrs.length:Int)+(N (aB hs i)).iD.length/\ (s.iO i).ptrs=((N (aB hs i)).ptrs.length:Int):=by
 have h':=h
 rw[G.fP]at h'
 have hn:K (aB hs i):=(G.node i).elim (fun e=>absurd e (BH h').2) id
 have e:s.iO i=ag s.ws (aB s.t i):=by unfold af.iO;rw[if_pos h]
 have hg:=G.get i
 refine⟨hn,hg, ?_,e, ?_, ?_⟩
 ·have:=G.stay hn (by rw[<-hg];exact G.new i)
  rw[hg]
  exact this
 ·rw[e,hg];exact G.rep.sz _ hn
 ·rw[e,hg];exact G.rep.pn _ hn
theorem Good.setH(G:Good s cur az N hs K loc)(i v n:Int)(hn:n=0∨K n)(hv:bT s cur v)(e:v=loc n):Good {s with t:=bP s.t i v} cur az N (bP hs i n) K loc:=by
 refine⟨G.inv.PX _, ?_,G.rep.setH i v n hn ?_⟩
 ·intro x hx
  rcases sV hx with h|h
  ·exact G.hdl x h
  ·rw[h]
   exact hv
 ·rw[G.inv.lay.bM hv,e]
theorem JM(G:Good s cur az N hs K loc)(i:Int):Good {s with t:=bP s.t i 0} cur az N (bP hs i 0) K loc:=
 G.setH i 0 0 (.inl rfl) (.inl rfl) G.rep.l0.symm
def Eg(hs:List Int)(i j:Int):List Int:=if bY hs j then bP hs i (aB hs j)else hs
theorem ND(G:Good s cur az N hs K loc)(i j:Int):Good {s with t:=s.tX i j} cur az N (Eg hs i j) K loc:=by
 unfold af.tX Eg
 rw[G.ok]
 split
 ·exact G.setH i _ _ (G.node j) (G.new j) (G.get j)
 ·exact G
def qN(N:Int->dB)(n:Int)(g:dB):Int->dB:=fun m=>if m=n then g else N m
theorem lu(N:Int->dB)(n:Int)(g:dB):qN N n g n=g:=if_pos rfl
theorem lC(N:Int->dB){n m:Int}(g:dB)(h:m≠n):qN N n g m=N m:=if_neg h
theorem Rep.write(I:Inv s cur az gq gq)(R:Rep s cur az N hs K loc)(ht: ∀x∈s.t,b_ s cur az x){n:Int}(hn:K n){k v:Int}(k0:0<=k)(k1:k<(N n).iD.length):
  Rep {s with ws:=iQ s.ws (place (loc n) ((N n).ptrs.length+k)) v} cur az (qN N n ⟨(N n).ptrs,(N n).iD.set k.toNat v⟩) hs K loc:=by
 have hI:=(R.pl n hn).kE
 obtain⟨p1,p2,p3,p4⟩:=I.lay.pos hI
 obtain⟨b1,b2,b3,b4,b5⟩:=aA s.ws (loc n)
 have hsz:=R.sz n hn
 have hpn:=R.pn n hn
 rw[oH (by omega) p3 (by omega) (by omega)]
 have hrd:=fun j=>vZ (ws:=s.ws) (i:=loc n+2+((N n).ptrs.length+k)) (by omega) (by omega) v j
 generalize hws:iQ s.ws (loc n+2+((N n).ptrs.length+k)) v=ws' at*
 have same: ∀b,gQ s cur az b->ag ws' b=ag s.ws b/\bH ws' b=bH s.ws b/\ (∀j:Int,0<=j->j<(ag s.ws b).ptrs->aQ ws' b j=aQ s.ws b j)/\ ∀j:Int,0<=j->j<(ag s.ws b).size->(b≠loc n∨j≠(N n).ptrs.length+k)->rd ws' (b+2+j)=rd s.ws (b+2+j):=by
  intro b hb
  obtain⟨q1,q2,q3,q4⟩:=I.lay.pos hb
  obtain⟨c1,c2,c3,c4,c5⟩:=aA s.ws b
  by_cases e:b=loc n
  ·subst e
   refine⟨by rw[dX,dX,hrd,if_neg (by omega)],by rw[f_ (by omega) q3,f_ (by omega) q3,hrd,if_neg (by omega)],fun j j0 j1=> ?_,fun j j0 j1 hj=> ?_⟩
   ·rw[dR (by omega) q3 j0 (by omega),dR (by omega) q3 j0 (by omega),hrd,if_neg (by omega)]
   ·have:j≠(N n).ptrs.length+k:=hj.elim (fun h=>absurd rfl h) id
    rw[hrd,if_neg (by omega)]
  ·have:=I.lay.apart hb hI e
   refine⟨by rw[dX,dX,hrd,if_neg (by omega)],by rw[f_ (by omega) q3,f_ (by omega) q3,hrd,if_neg (by omega)],fun j j0 j1=> ?_,fun j j0 j1 hj=> ?_⟩
   ·rw[dR (by omega) q3 j0 (by omega),dR (by omega) q3 j0 (by omega),hrd,if_neg (by omega)]
   ·rw[hrd,if_neg (by omega)]
 have dQ: ∀x,b_ s cur az x->af.now {s with ws:=ws'} x=s.now x:=fun x hx=>m_ (s':={s with ws:=ws'}) I.lay rfl (fun b hb=>(same b (.inr (.inl hb))).2.1) hx
 have hN: ∀m,(qN N n ⟨(N n).ptrs,(N n).iD.set k.toNat v⟩ m).ptrs=(N m).ptrs/\ (qN N n ⟨(N n).ptrs,(N n).iD.set k.toNat v⟩ m).iD.length=(N m).iD.length:=by
  intro m
  by_cases e:m=n
  ·subst e
   rw[lu]
   simp
  ·rw[lC N _ e]
   exact⟨rfl,rfl⟩
 refine⟨R.k0,R.l0,R.inj, ?_, ?_, ?_, ?_, ?_, ?_,R.hl,R.hk, ?_⟩
 ·intro m hm
  rcases R.pl m hm with h|h|h
  ·exact .inl h
  ·exact .inr (.inl h)
  ·exact .inr (.inr ⟨h.1,by show bH ws' (loc m)=loc m;rw[(same _ (.inr (.inl h.1))).2.1];exact h.2⟩)
 ·intro m hm
  show(ag ws' (loc m)).size=_
  rw[(same _ (R.pl m hm).kE).1,(hN m).1,(hN m).2]
  exact R.sz m hm
 ·intro m hm
  show(ag ws' (loc m)).ptrs=_
  rw[(same _ (R.pl m hm).kE).1,(hN m).1]
  exact R.pn m hm
 ·intro m hm x hx
  rw[(hN m).1]at hx
  exact R.pk m hm x hx
 ·intro m hm j hj
  rw[(hN m).1]at hj⊢
  have hpm:=R.pn m hm
  show af.now {s with ws:=ws'} (aQ ws' (loc m) j)=_
  rw[(same _ (R.pl m hm).kE).2.2.1 j (by omega) (by omega),dQ _ (I.jF (R.pl m hm).kE (by omega) (by omega))]
  exact R.pt m hm j hj
 ·intro m hm j hj
  rw[(hN m).2]at hj
  rw[(hN m).1]
  have hsm:=R.sz m hm
  show rd ws' (loc m+2+(((N m).ptrs.length:Int)+j))=_
  by_cases e:m=n
  ·subst e
   rw[lu]
   show _=((N m).iD.set k.toNat v).getD j 0
   rw[List.getD_eq_getElem?_getD,List.getElem?_set]
   by_cases ej:j=k.toNat
   ·rw[if_pos ej.symm,if_pos (by omega),hrd,if_pos (by omega)]
    rfl
   ·rw[if_neg (fun h=>ej h.symm),(same _ (R.pl m hm).kE).2.2.2 _ (by omega) (by omega) (.inr (by omega)),<-List.getD_eq_getElem?_getD]
    exact R.sc m hm j hj
  ·rw[lC N _ e,(same _ (R.pl m hm).kE).2.2.2 _ (by omega) (by omega) (.inl (fun h=>e (R.inj m n hm hn h)))]
   exact R.sc m hm j hj
 ·intro j hj
  show af.now {s with ws:=ws'} (s.t.getD j 0)=_
  rw[dQ _ (ht _ (fE (by rw[<-R.hl];exact hj)))]
  exact R.hv j hj
def qy(N:Int->dB)(hs:List Int)(i n:Int):Bool:=decide (0<=n/\n<(N (aB hs i)).iD.length)
def sW(N:Int->dB)(hs:List Int)(i n:Int):Int:=if uf hs i=0 then(if qy N hs i n then 0 else 5)else uf hs i
def P8(N:Int->dB)(hs:List Int)(i n:Int):Int:=if sW N hs i n=0 then(N (aB hs i)).iD.getD n.toNat 0 else 0
def wV(N:Int->dB)(hs:List Int)(i n x:Int):Int->dB:=if sW N hs i n=0 then qN N (aB hs i) ⟨(N (aB hs i)).ptrs,(N (aB hs i)).iD.set n.toNat x⟩else N
theorem Good.kJ(G:Good s cur az N hs K loc){i:Int}(h:s.fP i=0)(n:Int):s.kJ i n=qy N hs i n:=by
 obtain⟨_,_,_,_,e1,e2⟩:=G.obj h
 unfold af.kJ qy
 rw[e1,e2]
 congr 1
 apply propext
 omega
theorem Good.jU(G:Good s cur az N hs K loc){i n:Int}(h:s.fP i=0)(hn:qy N hs i n=true):s.jU i n=place (loc (aB hs i)) ((N (aB hs i)).ptrs.length+n)/\place (loc (aB hs i)) ((N (aB hs i)).ptrs.length+n)=loc (aB hs i)+2+((N (aB hs i)).ptrs.length+n)/\0<=s.jU i n/\s.jU i n<s.ws.length:=by
 obtain⟨hk,hg,ho,e0,e1,e2⟩:=G.obj h
 have hI:=(G.rep.pl _ hk).kE
 obtain⟨p1,p2,p3,p4⟩:=G.inv.lay.pos hI
 obtain⟨b1,b2,b3,b4,b5⟩:=aA s.ws (loc (aB hs i))
 have hsz:=G.rep.sz _ hk
 have hpn:=G.rep.pn _ hk
 have hn':=of_decide_eq_true hn
 have e:s.jU i n=place (loc (aB hs i)) ((N (aB hs i)).ptrs.length+n):=by
  unfold af.jU
  rw[hg,e2]
 have e':=oH (i:=loc (aB hs i)) (n:=(N (aB hs i)).ptrs.length+n) (by omega) p3 (by omega) (by omega)
 exact⟨e,e',by rw[e,e'];omega,by rw[e,e'];omega⟩
theorem Good.jf(G:Good s cur az N hs K loc)(i n:Int):s.jf i n=sW N hs i n:=by
 unfold af.jf sW
 rw[<-G.fP]
 by_cases h:s.fP i=0
 ·rw[if_pos h,if_pos h,G.kJ h]
  by_cases h2:qy N hs i n=true
  ·rw[if_pos h2,if_pos h2]
   obtain⟨_,_,a1,a2⟩:=G.jU h h2
   unfold nC
   rw[if_pos]
   rw[kL]
   omega
  ·rw[if_neg h2,if_neg h2]
 ·rw[if_neg h,if_neg h]
theorem jP{N:Int->dB}{hs:List Int}{i n:Int}:sW N hs i n=0↔uf hs i=0/\qy N hs i n=true:=by
 unfold sW
 constructor
 ·intro h
  split at h
  ·rename_i h1
   split at h
   ·rename_i h2
    exact⟨h1,h2⟩
   ·cases h
  ·rename_i h1
   exact absurd h h1
 ·rintro⟨h1,h2⟩
  rw[if_pos h1,if_pos h2]
theorem Good.tZ(G:Good s cur az N hs K loc)(i n:Int):s.tZ i n=P8 N hs i n:=by
 unfold af.tZ P8
 by_cases h:s.fP i=0
 ·rw[G.kJ h]
  by_cases h2:qy N hs i n=true
  ·rw[if_pos ⟨h,h2⟩,if_pos (jP.2 ⟨by rw[<-G.fP];exact h,h2⟩)]
   obtain⟨a0,a1,a2,a3⟩:=G.jU h h2
   have hn':=of_decide_eq_true h2
   rw[Bv,a0,a1]
   have:=G.rep.sc _ (G.obj h).1 n.toNat (by omega)
   rw[<-this]
   congr 1
   omega
  ·rw[if_neg (fun h'=>h2 h'.2),if_neg (fun h'=>h2 (jP.1 h').2)]
 ·rw[if_neg (fun h'=>h h'.1),if_neg (fun h'=>h (by rw[G.fP];exact(jP.1 h').1))]
theorem JO(G:Good s cur az N hs K loc)(i n v:Int):Good {s with ws:=s.writeW i n v} cur az (wV N hs i n v) hs K loc:=by
 unfold af.writeW wV
 by_cases h:s.fP i=0
 ·rw[G.kJ h]
  by_cases h2:qy N hs i n=true
  ·rw[if_pos ⟨h,h2⟩,if_pos (jP.2 ⟨by rw[<-G.fP];exact h,h2⟩)]
   obtain⟨a0,a1,a2,a3⟩:=G.jU h h2
   obtain⟨hk,hg,ho,e0,e1,e2⟩:=G.obj h
   have hn':=of_decide_eq_true h2
   have hI:=(G.rep.pl _ hk).kE
   rw[a0]
   have hsz:=G.rep.sz _ hk
   have hpn:=G.rep.pn _ hk
   refine⟨PZ G.inv hI (by omega) (by omega), ?_,G.rep.write G.inv G.hdl.ok hk hn'.1 hn'.2⟩
   intro x hx
   have:=G.hdl x hx
   unfold bT bV at this⊢
   simp only[iC]
   exact this
  ·rw[if_neg (fun h'=>h2 h'.2),if_neg (fun h'=>h2 (jP.1 h').2)]
   exact G
 ·rw[if_neg (fun h'=>h h'.1),if_neg (fun h'=>h (by rw[G.fP];exact(jP.1 h').1))]
  exact G
end
end Go.Proofs.YtibemcgdmembeaaGreat
namespace Go.Proofs.YtibemcgdmembeaaGreat
open Go.RowKit
section
variable{s:af}{cur az:List Int}{N:Int->dB}{hs:List Int}{K:Int->Prop}{loc:Int->Int}
theorem Rep.more(R:Rep s cur az N hs K loc){m t:Int}(h0:m≠0)(hk: ¬K m)(ht:Home s cur az t)(hne: ∀n,K n->loc n≠t)(g:dB)(hsz:(ag s.ws t).size=(g.ptrs.length:Int)+g.iD.length)(hpn:(ag s.ws t).ptrs=(g.ptrs.length:Int))
  (hp: ∀x∈g.ptrs,x=0)(hr: ∀j:Nat,j<g.ptrs.length->s.now (aQ s.ws t j)=0)(hsc: ∀j:Nat,j<g.iD.length->rd s.ws (t+2+((g.ptrs.length:Int)+j))=g.iD.getD j 0):
  Rep s cur az (qN N m g) hs (fun n=>n=m∨K n) (fun n=>if n=m then t else loc n):=by
 have hm: ∀n,K n->n≠m:=fun n hn e=>hk (e▸hn)
 have hl: ∀x,x=0∨K x->(if x=m then t else loc x)=loc x:=by
  intro x hx
  rcases hx with rfl|hx
  ·rw[if_neg (fun e=>h0 e.symm)]
  ·rw[if_neg (hm x hx)]
 refine⟨?_, ?_, ?_, ?_, ?_, ?_, ?_, ?_, ?_,R.hl,fun x hx=>(R.hk x hx).elim .inl (fun h=> .inr (.inr h)), ?_⟩
 ·rintro(h|h)
  ·exact h0 h.symm
  ·exact R.k0 h
 ·show(if(0:Int)=m then t else loc 0)=0
  rw[if_neg (fun e=>h0 e.symm),R.l0]
 ·intro n n' hn hn' e
  have e':(if n=m then t else loc n)=(if n'=m then t else loc n'):=e
  rcases hn with rfl|hn
  ·rcases hn' with rfl|hn'
   ·rfl
   ·rw[if_pos rfl,if_neg (hm n' hn')]at e'
    exact absurd e'.symm (hne n' hn')
  ·rcases hn' with rfl|hn'
   ·rw[if_pos rfl,if_neg (hm n hn)]at e'
    exact absurd e' (hne n hn)
   ·rw[if_neg (hm n hn),if_neg (hm n' hn')]at e'
    exact R.inj n n' hn hn' e'
 ·intro n hn
  show Home s cur az (if n=m then t else loc n)
  rcases hn with rfl|hn
  ·rw[if_pos rfl];exact ht
  ·rw[if_neg (hm n hn)];exact R.pl n hn
 ·intro n hn
  show(ag s.ws (if n=m then t else loc n)).size=_
  rcases hn with rfl|hn
  ·rw[if_pos rfl,lu];exact hsz
  ·rw[if_neg (hm n hn),lC N g (hm n hn)];exact R.sz n hn
 ·intro n hn
  show(ag s.ws (if n=m then t else loc n)).ptrs=_
  rcases hn with rfl|hn
  ·rw[if_pos rfl,lu];exact hpn
  ·rw[if_neg (hm n hn),lC N g (hm n hn)];exact R.pn n hn
 ·intro n hn x hx
  rcases hn with rfl|hn
  ·rw[lu]at hx
   exact .inl (hp x hx)
  ·rw[lC N g (hm n hn)]at hx
   exact(R.pk n hn x hx).elim .inl (fun h=> .inr (.inr h))
 ·intro n hn j hj
  show s.now (aQ s.ws (if n=m then t else loc n) j)=(if(qN N m g n).ptrs.getD j 0=m then t else loc ((qN N m g n).ptrs.getD j 0))
  rcases hn with rfl|hn
  ·rw[lu]at hj⊢
   have e:=hp _ (fE hj)
   rw[if_pos rfl,e,if_neg (fun e=>h0 e.symm),R.l0]
   exact hr j hj
  ·rw[lC N g (hm n hn)]at hj⊢
   rw[if_neg (hm n hn),hl _ (R.pk n hn _ (fE hj))]
   exact R.pt n hn j hj
 ·intro n hn j hj
  show rd s.ws ((if n=m then t else loc n)+2+(((qN N m g n).ptrs.length:Int)+j))=_
  rcases hn with rfl|hn
  ·rw[lu]at hj⊢
   rw[if_pos rfl]
   exact hsc j hj
  ·rw[lC N g (hm n hn)]at hj⊢
   rw[if_neg (hm n hn)]
   exact R.sc n hn j hj
 ·intro j hj
  show s.now (s.t.getD j 0)=(if hs.getD j 0=m then t else loc (hs.getD j 0))
  rw[hl _ (R.hk _ (fE hj))]
  exact R.hv j hj
def BI(p c:Int):dB:=⟨List.replicate p.toNat 0,List.replicate c.toNat 0⟩
theorem BJ(n j:Nat):(List.replicate n (0:Int)).getD j 0=0:=by
 rw[List.getD_eq_getElem?_getD,List.getElem?_replicate]
 split<;>rfl
theorem G_{p c:Int}:s.eX p c=true↔0<=p/\0<=c/\p<=s.C.largest/\c<=s.C.largest-p:=by simp[af.eX]
theorem yc(G:Good s cur az N hs K loc){i p c:Int}(he:s.gI i p c=0){m:Int}(h0:m≠0)(hk: ¬K m):
  Good (s.made i p c) (cur++[s.y.di (p+c+2)]) az (qN N m (BI p c)) (bP hs i m) (fun n=>n=m∨K n) (fun n=>if n=m then s.y.di (p+c+2)else loc n)/\
   ag (s.made i p c).ws (s.y.di (p+c+2))=s.jG p c/\ (∀b,gQ s cur az b->ag (s.made i p c).ws b=ag s.ws b/\bH (s.made i p c).ws b=bH s.ws b)/\ (∀x,b_ s cur az x->(s.made i p c).now x=s.now x)/\ ¬gQ s cur az (s.y.di (p+c+2))/\ (s.made i p c).C=s.C/\ (s.made i p c).ws.length=s.ws.length/\ (s.made i p c).o=s.o:=by
 have hsh:s.eX p c=true/\s.qK (p+c+2)=true:=by
  unfold af.gI at he
  split at he
  ·split at he
   ·split at he
    ·rename_i h1 h2
     exact⟨h1,h2⟩
    ·cases he
   ·cases he
  ·cases he
 obtain⟨hsh,hro⟩:=hsh
 obtain⟨p0,c0,p1,c1⟩:=G_.1 hsh
 have hl:=G.inv.lay.cf.l2
 have M:=P5 G.inv p0 c0 (by omega) hro s.t {s.done with oN:=wrap64 (s.done.oN+1),words:=wrap64 (s.done.words+(p+c+2))}
 generalize hs1:({s with ws:=iT s.ws (s.y.di (p+c+2)) (s.jG p c),y:=s.y.take (p+c+2),t:=s.t,done:={s.done with oN:=wrap64 (s.done.oN+1),words:=wrap64 (s.done.words+(p+c+2))}}:af)=s1 at M
 have hfin:s.made i p c={s1 with t:=bP s1.t i (s.y.di (p+c+2))}:=by rw[<-hs1];rfl
 have ht1:s1.t=s.t:=by rw[<-hs1]
 generalize hT:s.y.di (p+c+2)=t at*
 have YM:ag s1.ws t=s.jG p c:=M.hd
 have same: ∀b,gQ s cur az b->ag s1.ws b=ag s.ws b/\bH s1.ws b=bH s.ws b/\ (∀j:Int,0<=j->j<(ag s.ws b).ptrs->aQ s1.ws b j=aQ s.ws b j)/\ ∀j:Int,0<=j->j<(ag s.ws b).size->rd s1.ws (b+2+j)=rd s.ws (b+2+j):=by
  intro b hb
  have S:=M.rest b hb
  obtain⟨q1,q2,q3,q4⟩:=G.inv.lay.pos hb
  obtain⟨c1,c2,c3,c4,c5⟩:=aA s.ws b
  exact⟨S.head (by omega),S.way (by omega) (by omega) q3,fun j j0 j1=>S.ref (by omega) q3 j0 (by omega) (by omega),fun j j0 j1=>S _ (by omega) (by omega)⟩
 have dQ: ∀x,b_ s cur az x->s1.now x=s.now x:=by
  intro x hx
  have stay:bT s cur x->s1.now x=s.now x:=by
   intro h
   rw[G.inv.lay.bM h,M.inv.lay.bM]
   rcases h with h|h|h
   ·exact .inl h
   ·exact .inr (.inl (by unfold bV at h⊢;rw[M.C,M.wl];exact h))
   ·exact .inr (.inr (List.mem_append_left _ h))
  rcases hx with h|h|h|h
  ·exact stay (.inl h)
  ·exact stay (.inr (.inl h))
  ·exact stay (.inr (.inr h))
  ·rw[G.inv.lay.iw h,M.inv.lay.iw h]
   exact(same x (.inr (.inl h))).2.1
 have R1:Rep s1 (cur++[t]) az N hs K loc:=by
  refine G.rep.keep (fun _ h=>List.mem_append_left _ h) (fun b h=>by rw[M.o];exact h) (fun b hb=>(same b (.inr (.inl hb))).2.1) ?_ (by rw[ht1]) ?_
  ·intro b hb
   obtain⟨e1,e2,e3,e4⟩:=same b hb.kE
   have:=(aA s.ws b).2.2.2.1
   refine⟨by rw[e1],by rw[e1],fun k k0 k1=>e4 k (by omega) k1,fun k k0 k1=> ?_⟩
   rw[e3 k k0 k1]
   exact dQ _ (G.inv.jF hb.kE k0 k1)
  ·intro j hj
   rw[ht1]
   exact dQ _ (G.hdl.ok _ (fE hj))
 have H1:iy s1 (cur++[t]):=by
  intro x hx
  rw[ht1]at hx
  rcases G.hdl x hx with h|h|h
  ·exact .inl h
  ·exact .inr (.inl (by unfold bV at h⊢;rw[M.C,M.wl];exact h))
  ·exact .inr (.inr (List.mem_append_left _ h))
 have tc:t∈cur++[t]:=by simp
 have tI:gQ s1 (cur++[t]) az t:= .inl tc
 obtain⟨z1,z2,z3,z4⟩:=M.inv.lay.pos tI
 have R2:=R1.more (m:=m) (t:=t) h0 hk (.inl tc) (fun n hn e=>M.new (e▸ (G.rep.pl n hn).kE)) (BI p c)
  (by rw[YM];simp only[af.jG,BI,List.length_replicate];omega) (by rw[YM];simp only[af.jG,BI,List.length_replicate];omega)
  (fun x hx=>List.eq_of_mem_replicate hx)
  (by
   intro j hj
   simp only[BI,List.length_replicate]at hj
   rw[dR (by omega) z3 (by omega) (by omega),M.ref j (by omega) (by omega)]
   have:wrap64 0=0:=pq ⟨by omega,by omega⟩
   rw[this]
   exact M.inv.lay.bM (.inl rfl))
  (by
   intro j hj
   simp only[BI,List.length_replicate]at hj
   have e:(BI p c).iD.getD j 0=0:=BJ _ _
   rw[e]
   simp only[BI,List.length_replicate]
   exact M.ref _ (by omega) (by omega))
 rw[hfin]
 refine⟨?_,YM,fun b hb=>⟨(same b hb).1,(same b hb).2.1⟩,fun x hx=>dQ x hx,M.new,M.C,M.wl,M.o⟩
 refine(Good.mk M.inv H1 R2).setH i t m (.inr (.inl rfl)) (.inr (.inr tc)) ?_
 show t=if m=m then t else loc m
 rw[if_pos rfl]
theorem abW(G:Good s cur az N hs K loc){i p c:Int}(he:s.gI i p c=0){m:Int}(h0:m≠0)(hk: ¬K m):
  ∃loc',Good (s.made i p c) (cur++[s.y.di (p+c+2)]) az (qN N m (BI p c)) (bP hs i m) (fun n=>n=m∨K n) loc':=⟨_,(yc G he h0 hk).1⟩
theorem Eh(I:Inv s cur az gq gq)(hmv:s.aG=false)(r:Int):s.move r=s/\s.dA r=r:=by
 have ho:=I.hds.nm hmv
 have hr:=I.lay.ro
 rw[ho]at hr
 simp only[ig]at hr
 have:s.y.dI r=false:=by
  simp only[aJ.dI,decide_eq_false_iff_not]
  omega
 exact⟨by rw[af.move,if_pos (.inr this)],by rw[af.dA,if_pos (.inr this)]⟩
theorem NF(G:Good s cur az N hs K loc){r:Int}(hr:b_ s cur az r):
  ∃cur' loc',Good (s.move r) cur' az N hs K loc'/\v_ s cur az r (s.move r) cur' (s.dA r)/\ (s.move r).now r=s.dA r:=by
 cases hmv:s.aG with
 |false=>
  obtain⟨e1,e2⟩:=Eh G.inv hmv r
  have ho:=G.inv.hds.nm hmv
  have hn:bT s cur r:=by
   rcases hr with h|h|h|h
   ·exact .inl h
   ·exact .inr (.inl h)
   ·exact .inr (.inr h)
   ·rw[ho]at h;cases h
  refine⟨cur,loc,by rw[e1];exact G, ?_, ?_⟩
  ·rw[e1,e2]
   exact⟨fun _ hb=>hb,hn,fun _ _ _ _ _=>rfl,rfl,rfl,rfl,rfl,rfl,rfl,rfl,rfl,fun _ _=>rfl,fun _ hb=>hb⟩
  ·rw[e1,e2]
   exact G.inv.lay.bM hn
 |true=>
  obtain⟨c1,l1,I1,M,R1,h⟩:=BG G.inv hmv G.rep G.hdl.ok hr
  exact⟨c1,l1,⟨I1,iy.keep G.inv.lay I1.lay G.hdl M.C M.t M.mono,R1⟩,M,h⟩
def af.fetch(s:af)(r:Int):af:=(s.move r).mark (s.dA r)
def af.vP(s:af)(a b c:Int):af:=if s.jr b c a=0 then {s.fetch (aQ s.ws (aB s.t b) c)with t:=bP (s.fetch (aQ s.ws (aB s.t b) c)).t a (s.dA (aQ s.ws (aB s.t b) c))}else s
def Fq(N:Int->dB)(hs:List Int)(i n:Int):Bool:=decide (0<=n/\n<(N (aB hs i)).ptrs.length)
def wo(N:Int->dB)(hs:List Int)(i n k:Int):Int:=if uf hs i=0 then(if bY hs k then(if Fq N hs i n then 0 else 5)else 3)else uf hs i
theorem Good.jF(G:Good s cur az N hs K loc){i:Int}(h:s.fP i=0)(n:Int):s.jF i n=Fq N hs i n:=by
 obtain⟨_,_,_,_,e1,e2⟩:=G.obj h
 unfold af.jF Fq
 rw[e2]
theorem Good.jr(G:Good s cur az N hs K loc)(i n k:Int):s.jr i n k=wo N hs i n k:=by
 unfold af.jr wo
 rw[<-G.fP,G.ok]
 by_cases h:s.fP i=0
 ·rw[if_pos h,if_pos h,G.jF h]
 ·rw[if_neg h,if_neg h]
theorem nT{N:Int->dB}{hs:List Int}{i n k:Int}:wo N hs i n k=0↔uf hs i=0/\bY hs k=true/\Fq N hs i n=true:=by
 unfold wo
 constructor
 ·intro h
  split at h
  ·rename_i h1
   split at h
   ·rename_i h2
    split at h
    ·rename_i h3
     exact⟨h1,h2,h3⟩
    ·cases h
   ·cases h
  ·rename_i h1
   exact absurd h h1
 ·rintro⟨h1,h2,h3⟩
  rw[if_pos h1,if_pos h2,if_pos h3]
def NG(N:Int->dB)(hs:List Int)(a b c:Int):List Int:=if wo N hs b c a=0 then bP hs a ((N (aB hs b)).ptrs.getD c.toNat 0)else hs
theorem Rep.put(I:Inv s cur az gq gq)(R:Rep s cur az N hs K loc)(ht: ∀x∈s.t,b_ s cur az x){n m:Int}(hn:K n)(hm:m=0∨K m)(hl:loc n∈cur∨(s.o.aH (loc n)).isSome=true)(hT:bT s cur (loc m)){k:Int}(k0:0<=k)(k1:k<(N n).ptrs.length):
  Rep {s with ws:=iQ s.ws (place (loc n) k) (u64 (loc m))} cur az (qN N n ⟨(N n).ptrs.set k.toNat m,(N n).iD⟩) hs K loc:=by
 have hpn:=R.pn n hn
 have I1:Inv s cur az (fun b=>b=loc n) gq:=I.weak (fun b h=>h.elim) (fun b h=>h)
 obtain⟨I2,r1,r2,r3,r4,r5⟩:=kN I1 (a:=loc n) (hl.elim .inl (fun h=> .inr ⟨h,rfl⟩)) k0 (by omega) hT
 have hI:=(R.pl n hn).kE
 obtain⟨p1,p2,p3,p4⟩:=I.lay.pos hI
 obtain⟨b1,b2,b3,b4,b5⟩:=aA s.ws (loc n)
 have hsz:=R.sz n hn
 generalize hws:iQ s.ws (place (loc n) k) (u64 (loc m))=ws' at*
 have same: ∀b,gQ s cur az b->ag ws' b=ag s.ws b/\bH ws' b=bH s.ws b/\ (∀j:Int,0<=j->j<(ag s.ws b).ptrs->(b≠loc n∨j≠k)->aQ ws' b j=aQ s.ws b j)/\ ∀j:Int,0<=j->j<(ag s.ws b).size->(b≠loc n∨j≠k)->rd ws' (b+2+j)=rd s.ws (b+2+j):=by
  intro b hb
  obtain⟨q1,q2,q3,q4⟩:=I.lay.pos hb
  obtain⟨c1,c2,c3,c4,c5⟩:=aA s.ws b
  by_cases e:b=loc n
  ·subst e
   refine⟨r3,r4,fun j j0 j1 hj=> ?_,fun j j0 j1 hj=> ?_⟩
   ·have:j≠k:=hj.elim (fun h=>absurd rfl h) id
    rw[dR (by omega) q3 j0 (by omega),dR (by omega) q3 j0 (by omega),r5 j j0 (by omega) this]
   ·have:j≠k:=hj.elim (fun h=>absurd rfl h) id
    exact r5 j j0 (by omega) this
  ·have S:=r2 b hb e
   exact⟨S.head (by omega),S.way (by omega) (by omega) q3,fun j j0 j1 _=>S.ref (by omega) q3 j0 (by omega) (by omega),fun j j0 j1 _=>S _ (by omega) (by omega)⟩
 have dQ: ∀x,b_ s cur az x->af.now {s with ws:=ws'} x=s.now x:=fun x hx=>m_ (s':={s with ws:=ws'}) I.lay rfl (fun b hb=>(same b (.inr (.inl hb))).2.1) hx
 have hN: ∀x,(qN N n ⟨(N n).ptrs.set k.toNat m,(N n).iD⟩ x).ptrs.length=(N x).ptrs.length/\ (qN N n ⟨(N n).ptrs.set k.toNat m,(N n).iD⟩ x).iD=(N x).iD:=by
  intro x
  by_cases e:x=n
  ·subst e
   rw[lu]
   simp
  ·rw[lC N _ e]
   exact⟨rfl,rfl⟩
 refine⟨R.k0,R.l0,R.inj, ?_, ?_, ?_, ?_, ?_, ?_,R.hl,R.hk, ?_⟩
 ·intro x hx
  rcases R.pl x hx with h|h|h
  ·exact .inl h
  ·exact .inr (.inl h)
  ·exact .inr (.inr ⟨h.1,by show bH ws' (loc x)=loc x;rw[(same _ (.inr (.inl h.1))).2.1];exact h.2⟩)
 ·intro x hx
  show(ag ws' (loc x)).size=_
  rw[(same _ (R.pl x hx).kE).1,(hN x).1,(hN x).2]
  exact R.sz x hx
 ·intro x hx
  show(ag ws' (loc x)).ptrs=_
  rw[(same _ (R.pl x hx).kE).1,(hN x).1]
  exact R.pn x hx
 ·intro x hx y hy
  by_cases e:x=n
  ·subst e
   rw[lu]at hy
   rcases List.mem_or_eq_of_mem_set hy with h|h
   ·exact R.pk x hx y h
   ·rw[h];exact hm
  ·rw[lC N _ e]at hy
   exact R.pk x hx y hy
 ·intro x hx j hj
  rw[(hN x).1]at hj
  have hpx:=R.pn x hx
  show af.now {s with ws:=ws'} (aQ ws' (loc x) j)=_
  by_cases e:x=n
  ·subst e
   rw[lu]
   show _=loc (((N x).ptrs.set k.toNat m).getD j 0)
   rw[List.getD_eq_getElem?_getD,List.getElem?_set]
   by_cases ej:k.toNat=j
   ·rw[if_pos ej,if_pos (by omega),show(j:Int)=k by omega,r1]
    show af.now {s with ws:=ws'} (loc m)=loc m
    rw[dQ _ hT.qw]
    exact I.lay.bM hT
   ·rw[if_neg ej,(same _ (R.pl x hx).kE).2.2.1 j (by omega) (by omega) (.inr (by omega)),dQ _ (I.jF (R.pl x hx).kE (by omega) (by omega)),<-List.getD_eq_getElem?_getD]
    exact R.pt x hx j hj
  ·rw[lC N _ e,(same _ (R.pl x hx).kE).2.2.1 j (by omega) (by omega) (.inl (fun h=>e (R.inj x n hx hn h))),dQ _ (I.jF (R.pl x hx).kE (by omega) (by omega))]
   exact R.pt x hx j hj
 ·intro x hx j hj
  rw[(hN x).2]at hj⊢
  rw[(hN x).1]
  have hsx:=R.sz x hx
  show rd ws' (loc x+2+(((N x).ptrs.length:Int)+j))=_
  rw[(same _ (R.pl x hx).kE).2.2.2 _ (by omega) (by omega) ?_]
  ·exact R.sc x hx j hj
  ·by_cases e:x=n
   ·subst e
    exact .inr (by omega)
   ·exact .inl (fun h=>e (R.inj x n hx hn h))
 ·intro j hj
  show af.now {s with ws:=ws'} (s.t.getD j 0)=_
  rw[dQ _ (ht _ (fE (by rw[<-R.hl];exact hj)))]
  exact R.hv j hj
def DC(N:Int->dB)(hs:List Int)(i n k:Int):Int->dB:=if wo N hs i n k=0 then qN N (aB hs i) ⟨(N (aB hs i)).ptrs.set n.toNat (aB hs k),(N (aB hs i)).iD⟩else N
theorem P9(G:Good s cur az N hs K loc)(i n k:Int):Good (s.set i n k) cur az (DC N hs i n k) hs K loc:=by
 unfold af.set DC
 rw[<-G.jr]
 by_cases he:s.jr i n k=0
 ·rw[if_pos he,if_pos he]
  have he':=he
  rw[G.jr]at he'
  obtain⟨z1,z2,z3⟩:=nT.1 he'
  rw[<-G.fP]at z1
  obtain⟨hk,hg,ho,e0,e1,e2⟩:=G.obj z1
  obtain⟨c0,c1⟩:=of_decide_eq_true z3
  have hpn:(ag s.ws (aB s.t i)).ptrs=((N (aB hs i)).ptrs.length:Int):=by rw[<-e0];exact e2
  have hT:=G.new k
  have I1:=RV G.inv ho c0 (by rw[hpn];exact c1) hT
  have hg2:=G.get k
  have R1:=G.rep.put G.inv G.hdl.ok hk (G.node k) (by rw[<-hg];exact ho) (by rw[<-hg2];exact hT) c0 c1
  rw[<-hg,<-hg2]at R1
  have H1:iy (s.put i n k) cur:=by
   intro x hx
   have:=G.hdl x hx
   unfold bT bV at this⊢
   have e:(s.put i n k).ws.length=s.ws.length:=iC ..
   rw[e]
   exact this
  unfold af.xP
  have eI:(if s.y.isIn (aB s.t k)then(s.put i n k).note (aB s.t i)else s.put i n k)=(if s.y.isIn (aB s.t k)then({s with ws:=iQ s.ws (place (aB s.t i) n) (u64 (aB s.t k))}:af).note (aB s.t i)else {s with ws:=iQ s.ws (place (aB s.t i) n) (u64 (aB s.t k))}):=rfl
  rw[<-eI]at I1
  by_cases hin:s.y.isIn (aB s.t k)=true
  ·rw[if_pos hin]at I1⊢
   have I2:Inv (s.put i n k) cur az (fun b=>b=aB s.t i) gq:=(kN (G.inv.weak (E':=fun b=>b=aB s.t i) (F':=gq) (fun b h=>h.elim) (fun b h=>h)) (ho.elim .inl (fun h=> .inr ⟨h,rfl⟩)) c0 (by rw[hpn];exact c1) hT).1
   rcases ho with hc|hold
   ·rw[pW I2 hc]at I1⊢
    exact⟨I1,H1,R1⟩
   ·refine⟨I1, ?_,G7 I2 R1 (iy.ok H1) hold⟩
    obtain⟨m1,m2,_⟩:=jm (s.put i n k) (aB s.t i)
    have hl:=(rQ I2 (a:=aB s.t i) hold).2.2.1
    intro x hx
    rw[m2]at hx
    have:=H1 x hx
    unfold bT bV at this⊢
    rw[m1,hl]
    exact this
  ·rw[if_neg hin]at I1⊢
   exact⟨I1,H1,R1⟩
 ·rw[if_neg he,if_neg he]
  exact G
theorem good_step(G:Good s cur az N hs K loc): ∃cur' uN K' loc',Good s.eG cur' uN N hs K' loc'/\ (∀n,K' n->K n):=by
 obtain⟨c1,o1,K1,l1,J,R1,H1,k1⟩:=acz G.inv G.rep G.hdl
 exact⟨c1,o1,K1,l1,⟨J,H1,R1⟩,k1⟩
theorem good_start(G:Good s cur az N hs K loc): ∃cur' uN loc',Good s.eY cur' uN N hs K loc':=by
 obtain⟨c1,o1,l1,J,R1,H1⟩:=abU G.inv G.rep G.hdl
 exact⟨c1,o1,l1,⟨J,H1,R1⟩⟩
theorem Good.tY(G:Good s cur az N hs K loc)(i j:Int):s.tY i j=(bY hs i&&bY hs j&&decide (aB hs i=aB hs j)):=by
 unfold af.tY
 rw[G.ok,G.ok,G.get,G.get]
 congr 1
 exact decide_eq_decide.2 (G.same (G.node i) (G.node j))
theorem Good.Dp(G:Good s cur az N hs K loc)(i:Int):s.Dp i=(bY hs i&&decide (aB hs i=0)):=by
 unfold af.Dp
 rw[G.ok,G.get]
 congr 1
 exact decide_eq_decide.2 (G.zero (G.node i))
end
theorem He{c:gX}(h:c.Fits):Good (gJ c) [] [] (fun _=>YL) (List.replicate c.handles.toNat 0) (fun _=>False) (fun _=>0):=by
 have I:=RY h
 have ht:(gJ c).t=List.replicate c.handles.toNat 0:=rfl
 have hH:iy (gJ c) []:=fun x hx=> .inl (List.eq_of_mem_replicate (by rw[ht]at hx;exact hx))
 refine⟨I,hH,⟨id,rfl,fun _ _ h=>h.elim,fun _ h=>h.elim,fun _ h=>h.elim,fun _ h=>h.elim,fun _ h=>h.elim,fun _ h=>h.elim,fun _ h=>h.elim,by rw[ht],fun x hx=> .inl (List.eq_of_mem_replicate hx), ?_⟩⟩
 intro j hj
 rw[ht,BJ]
 exact I.lay.bM (.inl rfl)
end Go.Proofs.YtibemcgdmembeaaGreat
namespace Go.Proofs.YtibemcgdmembeaaGreat
open Go.RowKit
def Mid(az:List Int)(N:Int->dB)(hs:List Int)(K:Int->Prop)(s:af)(cur:List Int)(loc:Int->Int):Prop:=
 s.aG=true/\Rep s cur az N hs K loc/\ (∀x∈s.t,b_ s cur az x)/\ ∃E F,Inv s cur az E F
def Src(s:af)(cur:List Int)(a:Int):Prop:=a∈s.t∨ ∃b k,(b∈cur∨(s.o.aH b).isSome=true)/\0<=k/\k<(ag s.ws b).ptrs/\aQ s.ws b k=a
inductive NH(az:List Int)(N:Int->dB)(hs:List Int)(K:Int->Prop):af->List Int->(Int->Int)->af->List Int->(Int->Int)->Prop
 |mv {s cur loc a cur'}:Mid az N hs K s cur loc->a∈az->bH s.ws a=a->Src s cur a->xY s cur az a (s.moved a) cur' (s.kD a)->(∀b∈cur,b∈cur')->(s.kD a∈cur'∨((s.moved a).o.aH (s.kD a)).isSome=true)->NH az N hs K s cur loc (s.moved a) cur' (fun n=>if loc n=a then s.kD a else loc n)
 |ref {s cur loc a k T}:Mid az N hs K s cur loc->(a∈cur∨(s.o.aH a).isSome=true)->0<=k->k<(ag s.ws a).ptrs->bT s cur T->s.now (aQ s.ws a k)=T->NH az N hs K s cur loc {s with ws:=iQ s.ws (place a k) (u64 T)} cur loc
 |note {s cur loc a}:Mid az N hs K s cur loc->(s.o.aH a).isSome=true->NH az N hs K s cur loc (s.note a) cur loc
 |dL {s cur loc a}:Mid az N hs K s cur loc->(s.o.aH a).isSome=true->NH az N hs K s cur loc (s.dL a) cur loc
 |other {s cur loc s'}:Mid az N hs K s cur loc->s'.C=s.C->s'.ws=s.ws->s'.y=s.y->s'.o=s.o->s'.t=s.t->s'.g=s.g->s'.parity=s.parity->s'.phase=s.phase->s'.aG=s.aG->s'.look=s.look->s'.copied=s.copied->s'.done=s.done->NH az N hs K s cur loc s' cur loc
 |hdl {s cur loc t}:Mid az N hs K s cur loc->t.length=s.t.length->(∀j:Nat,j<s.t.length->s.now (t.getD j 0)=s.now (s.t.getD j 0))->NH az N hs K s cur loc {s with t:=t} cur loc
inductive lK(az:List Int)(N:Int->dB)(hs:List Int)(K:Int->Prop):af->List Int->(Int->Int)->af->List Int->(Int->Int)->Prop
 |refl {s cur loc}:lK az N hs K s cur loc s cur loc
 |more {s cur loc s' cur' loc' s'' Hf Hg}:lK az N hs K s cur loc s' cur' loc'->NH az N hs K s' cur' loc' s'' Hf Hg->lK az N hs K s cur loc s'' Hf Hg
section
variable{az:List Int}{N:Int->dB}{hs:List Int}{K:Int->Prop}
theorem lK.one{s s':af}{cur cur':List Int}{loc loc':Int->Int}(h:NH az N hs K s cur loc s' cur' loc'):lK az N hs K s cur loc s' cur' loc':= .more .refl h
theorem lK.trans{s s' s'':af}{cur cur' Hf:List Int}{loc loc' Hg:Int->Int}(h:lK az N hs K s cur loc s' cur' loc')(g:lK az N hs K s' cur' loc' s'' Hf Hg):lK az N hs K s cur loc s'' Hf Hg:=by
 induction g with
 |refl=>exact h
 |more _ m ih=>exact .more ih m
theorem lK.keep{P:af->List Int->(Int->Int)->Prop}(hP: ∀{s cur loc s' cur' loc'},NH az N hs K s cur loc s' cur' loc'->P s cur loc->P s' cur' loc'){s s':af}{cur cur':List Int}{loc loc':Int->Int}(g:lK az N hs K s cur loc s' cur' loc')(h:P s cur loc):P s' cur' loc':=by
 induction g with
 |refl=>exact h
 |more _ m ih=>exact hP m ih
theorem lK.rel{P:af->List Int->(Int->Int)->af->List Int->(Int->Int)->Prop}(h0: ∀s cur loc,P s cur loc s cur loc)(hP: ∀{s cur loc s' cur' loc' s'' Hf Hg},P s cur loc s' cur' loc'->NH az N hs K s' cur' loc' s'' Hf Hg->P s cur loc s'' Hf Hg){s s':af}{cur cur':List Int}{loc loc':Int->Int}(g:lK az N hs K s cur loc s' cur' loc'):P s cur loc s' cur' loc':=by
 induction g with
 |refl=>exact h0 _ _ _
 |more _ m ih=>exact hP ih m
theorem BK{s:af}{cur:List Int}{E F:Int->Prop}(I:Inv s cur az E F)(hmv:s.aG=true){loc:Int->Int}(R:Rep s cur az N hs K loc)(ht: ∀x∈s.t,b_ s cur az x){r:Int}(hr:b_ s cur az r)(hs':Src s cur r):
  ∃cur' loc',Inv (s.move r) cur' az E F/\v_ s cur az r (s.move r) cur' (s.dA r)/\Rep (s.move r) cur' az N hs K loc'/\ (s.move r).now r=s.dA r/\lK az N hs K s cur loc (s.move r) cur' loc':=by
 by_cases hq:r∈az/\bH s.ws r=r
 ·obtain⟨h,hw⟩:=hq
  have h0: ¬(r=0∨s.y.dI r=false):=by
   rintro(h1|h1)
   ·exact I.lay.not_zero (.inr (.inl h)) h1
   ·rw[I.lay.gz h]at h1;cases h1
  obtain⟨cur',M,I',hm,hT⟩:=vz I hmv h hw
  have e1:s.move r=s.moved r:=by rw[af.move,if_neg h0,I.lay.iw h,if_pos hw]
  obtain⟨c1,l1,I1,M1,R1,hn⟩:=BG I hmv R ht hr
  have hc:c1=cur':=by
   rw[e1]at I1
   exact(I'.uniq I1).1
  subst hc
  have R':=R.moved I h hw M hm hT ht
  refine⟨c1,_,I1,M1,by rw[e1];exact R',hn, ?_⟩
  rw[e1]
  exact .one (.mv ⟨hmv,R,ht,E,F,I⟩ h hw hs' M hm hT)
 ·have e1:s.move r=s:=by
   unfold af.move
   split
   ·rfl
   ·rename_i h0
    split
    ·rename_i h1
     exfalso
     have hro:r∈az:=by
      rcases hr with h|h|h|h
      ·exact absurd (.inl h) h0
      ·exact absurd (.inr (I.lay.jl (.inl h))) h0
      ·exact absurd (.inr (I.lay.fK (.inl h))) h0
      ·exact h
     rw[I.lay.iw hro]at h1
     exact hq ⟨hro,h1⟩
    ·rfl
  obtain⟨c1,l1,I1,M1,R1,hn⟩:=BG I hmv R ht hr
  have hc:c1=cur:=by
   rw[e1]at I1
   exact(I.uniq I1).1
  subst hc
  refine⟨c1,loc,I1,M1,by rw[e1];exact R,hn, ?_⟩
  rw[e1]
  exact .refl
theorem JP{s:af}{cur:List Int}{E F:Int->Prop}(I:Inv s cur az E F)(hmv:s.aG=true){loc:Int->Int}(R:Rep s cur az N hs K loc)(ht: ∀x∈s.t,b_ s cur az x){a:Int}(ha:jI s cur E a){k:Nat}(hk:(k:Int)<(ag s.ws a).ptrs):
  ∃cur' loc',Inv (s.dV a k) cur' az E F/\ (∀x,b_ s cur az x->b_ (s.dV a k) cur' az x)/\ (s.dV a k).t=s.t/\ (s.dV a k).aG=true/\jI (s.dV a k) cur' E a/\ag (s.dV a k).ws a=ag s.ws a/\ (∀b∈cur,b∈cur')/\Rep (s.dV a k) cur' az N hs K loc'/\lK az N hs K s cur loc (s.dV a k) cur' loc':=by
 obtain⟨cur',loc',I1,M,R1,dQ,C1⟩:=BK I hmv R ht (I.qw ha (by omega) hk) (.inr ⟨a,k,ha.kE,by omega,hk,rfl⟩)
 have hI:gQ s cur az a:=ha.elim .inl (fun h=> .inr (.inr h.1))
 obtain⟨p1,p2,p3,p4⟩:=I.lay.pos hI
 obtain⟨b1,b2,b3,b4,b5⟩:=aA s.ws a
 have SA:=M.same a ha.kE
 have hdA:ag (s.move (aQ s.ws a k)).ws a=ag s.ws a:=SA.head (by omega)
 have VO:aQ (s.move (aQ s.ws a k)).ws a k=aQ s.ws a k:=SA.ref (by omega) p3 (by omega) (by omega) (by omega)
 have ha1:jI (s.move (aQ s.ws a k)) cur' E a:=by
  rcases ha with h|⟨h,h2⟩
  ·exact .inl (M.mono a h)
  ·exact .inr ⟨by rw[M.old a h];exact h,h2⟩
 unfold af.dV
 by_cases hq:s.dA (aQ s.ws a k)=aQ s.ws a k
 ·rw[if_pos hq]
  exact⟨cur',loc',I1,fun x hx=>M.qw hx,M.t,M.aG.trans hmv,ha1,hdA,M.mono,R1,C1⟩
 ·rw[if_neg hq]
  obtain⟨I2,r1,r2,r3,r4,r5⟩:=kN (k:=(k:Int)) I1 ha1 (by omega) (by rw[hdA];exact hk) M.res
  have ht1: ∀x∈(s.move (aQ s.ws a k)).t,b_ (s.move (aQ s.ws a k)) cur' az x:=by
   intro x hx
   rw[M.t]at hx
   exact M.qw (ht x hx)
  have R2:=R1.setRef I1 ha1 (k:=(k:Int)) (by omega) (by rw[hdA];exact hk) M.res (by rw[VO];exact dQ) ht1
  refine⟨cur',loc',I2, ?_,M.t,M.aG.trans hmv, ?_,r3.trans hdA,M.mono,R2,C1.more (.ref ⟨M.aG.trans hmv,R1,ht1,E,F,I1⟩ ha1.kE (by omega) (by rw[hdA];exact hk) M.res (by rw[VO];exact dQ))⟩
  ·intro x hx
   rcases M.qw hx with h|h|h|h
   ·exact .inl h
   ·refine .inr (.inl ?_)
    unfold bV at h⊢
    simp only[iC]
    exact h
   ·exact .inr (.inr (.inl h))
   ·exact .inr (.inr (.inr h))
  ·exact ha1
theorem Ld{s:af}{cur:List Int}{E F:Int->Prop}(I:Inv s cur az E F)(hmv:s.aG=true){loc:Int->Int}(R:Rep s cur az N hs K loc)(ht: ∀x∈s.t,b_ s cur az x){a:Int}(ha:jI s cur E a): ∀j:Nat,(j:Int)<=(ag s.ws a).ptrs->
  ∃cur' loc',Inv (s.jb a j) cur' az E F/\ (∀x,b_ s cur az x->b_ (s.jb a j) cur' az x)/\ (s.jb a j).t=s.t/\ (s.jb a j).aG=true/\jI (s.jb a j) cur' E a/\ag (s.jb a j).ws a=ag s.ws a/\ (∀b∈cur,b∈cur')/\Rep (s.jb a j) cur' az N hs K loc'/\lK az N hs K s cur loc (s.jb a j) cur' loc'
 |0,_=>⟨cur,loc,I,fun _ h=>h,rfl,hmv,ha,rfl,fun _ h=>h,R, .refl⟩
 |j+1,hj=>by
  obtain⟨c1,l1,I1,k1,q1,q2,q3,q4,q5,R1,C1⟩:=Ld I hmv R ht ha j (by omega)
  obtain⟨c2,l2,I2,k2,w1,w2,w3,w4,w5,R2,C2⟩:=JP I1 q2 R1 (fun x hx=>k1 x (ht x (by rw[<-q1];exact hx))) q3 (k:=j) (by rw[q4];omega)
  exact⟨c2,l2,I2,fun x hx=>k2 x (k1 x hx),w1.trans q1,w2,w3,w4.trans q4,fun b hb=>w5 b (q5 b hb),R2,C1.trans C2⟩
theorem BL{s:af}{cur:List Int}{E F:Int->Prop}(I:Inv s cur az E F)(hmv:s.aG=true){loc:Int->Int}(R:Rep s cur az N hs K loc)(ht: ∀x∈s.t,b_ s cur az x){a:Int}(ha:jI s cur E a){cur':List Int}(J:Inv (s.through a) cur' az E F): ∃loc',Rep (s.through a) cur' az N hs K loc'/\lK az N hs K s cur loc (s.through a) cur' loc':=by
 have hp:((s.bQ a:Nat):Int)=(ag s.ws a).ptrs:=by
  have:=(aA s.ws a).2.2.2.1
  unfold af.bQ
  omega
 obtain⟨c1,l1,I1,k1,q1,q2,q3,q4,q5,R1,C1⟩:=Ld I hmv R ht ha (s.bQ a) (by omega)
 unfold af.through at J⊢
 by_cases hy:s.iU a (s.bQ a)=true
 ·rw[if_pos hy]at J⊢
  rcases q3 with hc|⟨ho,_⟩
  ·rw[pW I1 hc]at J⊢
   obtain⟨rfl,_⟩:=I1.uniq J
   exact⟨l1,R1,C1⟩
  ·have ht1: ∀x∈(s.jb a (s.bQ a)).t,b_ (s.jb a (s.bQ a)) c1 az x:=fun x hx=>k1 x (ht x (by rw[<-q1];exact hx))
   have R2:=G7 I1 R1 ht1 ho
   obtain⟨rfl,_⟩:=(rQ I1 ho).1.uniq J
   exact⟨l1,R2,C1.more (.note ⟨q2,R1,ht1,E,F,I1⟩ ho)⟩
 ·rw[if_neg hy]at J⊢
  obtain⟨rfl,_⟩:=I1.uniq J
  exact⟨l1,R1,C1⟩
theorem Ei{s:af}{cur cur':List Int}{E F E' F':Int->Prop}(I:Inv s cur az E F)(hmv:s.aG=true){loc:Int->Int}(R:Rep s cur az N hs K loc)(ht:iy s cur){a:Int}(J:Inv (s.fD a) cur' az E' F'): ∃loc',Rep (s.fD a) cur' az N hs K loc'/\lK az N hs K s cur loc (s.fD a) cur' loc':=by
 unfold af.fD at J⊢
 by_cases hq:s.iV a=true
 ·rw[if_pos hq]at J⊢
  have ha:(s.o.aH a).isSome=true:=by
   unfold af.iV at hq
   rw[Bool.and_eq_true]at hq
   exact hq.1
  obtain⟨I1,u1,u2,u3,u4,u5,u6⟩:=sS (E':=fun b=>E b∨b=a) (F':=F) I ha (fun b h=> .inl h) (.inr rfl) (fun _ _ h=>h)
  have hL:jI (s.dL a) cur (fun b=>E b∨b=a) a:= .inr ⟨ha, .inr rfl⟩
  obtain⟨c1,L⟩:=uM I1 (show(s.dL a).aG=true from hmv) hL
  obtain⟨rfl,_⟩:=L.inv.uniq J
  obtain⟨l1,R1,C1⟩:=BL I1 hmv (JI I R ht.ok ha) (iy.keep I.lay I1.lay ht rfl rfl (fun _ h=>h)).ok hL L.inv
  exact⟨l1,R1,(lK.one (.dL ⟨hmv,R,ht.ok,E,F,I⟩ ha)).trans C1⟩
 ·rw[if_neg hq]at J⊢
  obtain⟨rfl,_⟩:=I.uniq J
  exact⟨loc,R, .refl⟩
theorem Hl: ∀(l:List Int) {s:af} {cur cur':List Int} {loc:Int->Int},Inv s cur az (fun b=>b∈l/\ (ag s.ws b).aY=true) (fun b=>b∈l)->s.aG=true->(∀b∈l,(s.o.aH b).isSome=true)->iy s cur->Rep s cur az N hs K loc->Inv (s.iF l) cur' az gq gq->
  ∃loc',Rep (s.iF l) cur' az N hs K loc'/\lK az N hs K s cur loc (s.iF l) cur' loc'
 |[],s,cur,cur',loc,I,_,_,_,R,J=>by
  have J':Inv s cur' az gq gq:=J
  obtain⟨rfl,_⟩:=I.uniq J'
  exact⟨loc,R, .refl⟩
 |a::l,s,cur,cur',loc,I,hmv,ho,ht,R,J=>by
  obtain⟨hok,c1,I1,M⟩:=yQ (a:=a) (E':=fun b=>b≠a/\b∈l/\ (ag s.ws b).aY=true) (F':=fun b=>b∈l) I hmv (fun _ h=>h.2)
   (fun b hb h=>⟨hb,(List.mem_cons.1 h.1).resolve_left hb,h.2⟩) (fun b hb h=>(List.mem_cons.1 h).resolve_left hb)
  have hds: ∀b∈l,b≠a->ag (s.fD a).ws b=ag s.ws b:=fun b hb hba=>M.others b hba (.inr (ho b (List.mem_cons_of_mem _ hb)))
  obtain⟨l1,R1,C1⟩:=Ei I hmv R ht I1
  obtain⟨l2,R2,C2⟩:=Hl l (s:=s.fD a) (cur:=c1) (I1.weak (fun b h=>⟨h.2.1,by rw[hds b h.2.1 h.1];exact h.2.2⟩) (fun _ h=>h)) (M.aG.trans hmv)
   (fun b hb=>by rw[M.old b (ho b (List.mem_cons_of_mem _ hb))];exact ho b (List.mem_cons_of_mem _ hb)) (iy.keep I.lay I1.lay ht M.C M.t M.mono) R1 J
  exact⟨l2,R2,C1.trans C2⟩
theorem R_{s:af}{cur cur':List Int}(I:Inv s cur az gq gq)(hmv:s.aG=true){loc:Int->Int}(R:Rep s cur az N hs K loc)(ht:iy s cur)(J:Inv s.rF cur' az gq gq): ∃loc',Rep s.rF cur' az N hs K loc'/\lK az N hs K s cur loc s.rF cur' loc':=by
 have I1:Inv s.mY cur az (fun b=>b=s.h_) gq:=Ed I (fun b h=>h.elim) (fun _=>rfl)
 have R1:Rep s.mY cur az N hs K loc:=R.other rfl rfl rfl rfl
 have C0:lK az N hs K s cur loc s.mY cur loc:= .one (.other ⟨hmv,R,ht.ok,gq,gq,I⟩ rfl rfl rfl rfl rfl rfl rfl rfl rfl rfl rfl rfl)
 unfold af.rF at J⊢
 by_cases ha:(s.o.aH s.h_).isSome=true
 ·rw[if_pos ha]at J⊢
  have hL:jI s.mY cur (fun b=>b=s.h_) s.h_:= .inr ⟨ha,rfl⟩
  obtain⟨c1,L⟩:=uM I1 (show s.mY.aG=true from hmv) hL
  obtain⟨rfl,_⟩:=L.inv.uniq J
  obtain⟨l1,R2,C1⟩:=BL I1 hmv R1 (iy.keep I.lay I1.lay ht rfl rfl (fun _ h=>h)).ok hL L.inv
  exact⟨l1,R2,C0.trans C1⟩
 ·rw[if_neg ha]at J⊢
  obtain⟨rfl,_⟩:=I1.uniq J
  exact⟨loc,R1,C0⟩
theorem P_{s:af}{cur cur':List Int}(I:Inv s cur az gq gq)(hmv:s.aG=true)(hok:s.pR=true){loc:Int->Int}(R:Rep s cur az N hs K loc)(ht:iy s cur)(J:Inv s.vY cur' az gq gq): ∃loc',Rep s.vY cur' az N hs K loc'/\lK az N hs K s cur loc s.vY cur' loc':=by
 obtain⟨hsc,c1,L,I2,_⟩:=BB I hmv hok
 obtain⟨rfl,_⟩:=I2.uniq J
 obtain⟨l1,R1,C1⟩:=BL I hmv R ht.ok (E:=gq) (.inl hsc) L.inv
 refine⟨l1,R1.other rfl rfl rfl rfl,C1.more (.other ⟨L.aG.trans hmv,R1,(iy.keep I.lay L.inv.lay ht L.C L.t L.mono).ok,gq,gq,L.inv⟩ rfl rfl rfl rfl rfl rfl rfl rfl rfl rfl rfl rfl)⟩
theorem Qa{s:af}{cur:List Int}{loc:Int->Int}(G:Good s cur az N hs K loc)(hmv:s.aG=true):
  (s.qf=true/\ ∃cur' loc',Good s.eG cur' az N hs K loc'/\lK az N hs K s cur loc s.eG cur' loc')∨
  (s.qf=false/\s.eG=s.gK/\s.row=[]/\s.r.left=0/\s.scan=s.y.cf+s.y.cu/\Good s.gK cur [] N hs (fun n=>K n/\loc n∉az) loc):=by
 obtain⟨I,ht,R⟩:=G
 have key: ∀{s':af} {cur':List Int},Inv s' cur' az gq gq->(∀b∈cur,b∈cur')->Kept s s'->(∃loc',Rep s' cur' az N hs K loc'/\lK az N hs K s cur loc s' cur' loc')-> ∃cur' loc',Good s' cur' az N hs K loc'/\lK az N hs K s cur loc s' cur' loc':=by
  rintro s' cur' J m k ⟨l',R',C'⟩
  exact⟨cur',l',⟨J,iy.keep I.lay J.lay ht k.C k.t m,R'⟩,C'⟩
 have YN: ¬s.aG=false:=by rw[hmv];decide
 show(og s.which=true/\ ∃cur' loc',Good (s.stepOf s.which) cur' az N hs K loc'/\lK az N hs K s cur loc (s.stepOf s.which) cur' loc')∨(og s.which=false/\s.stepOf s.which=s.gK/\_)
 unfold af.which
 rw[if_neg YN]
 by_cases hr:0<s.row.length
 ·rw[if_pos hr]
  left
  obtain⟨h1,c1,I2,m,q1,q2,q3,q4,q5,q6⟩:=K_ I hmv
  exact⟨rfl,key I2 m ⟨q1,q2,q3,q4⟩ (R_ I hmv R ht I2)⟩
 ·rw[if_neg hr]
  cases hx:s.r.tb.list with
  |cons x l=>
   left
   obtain⟨h1,c1,I2,m,k,q5,q6⟩:=La I hmv hx
   have IP:=JJ I hmv hx
   refine⟨rfl,key I2 m k ?_⟩
   obtain⟨l1,R1,C1⟩:=Ei IP hmv (R.other (s':=s.fV) rfl rfl rfl rfl) (iy.keep I.lay IP.lay ht rfl rfl (fun _ h=>h)) I2
   exact⟨l1,R1,(lK.one (.other (s':=s.fV) ⟨hmv,R,ht.ok,gq,gq,I⟩ rfl rfl rfl rfl rfl rfl rfl rfl rfl rfl rfl rfl)).trans C1⟩
  |nil=>
   cases hf:s.r.tc.first with
   |some n=>
    left
    obtain⟨h1,c1,I2,m,k,q5,q6⟩:=G5 I hmv hx n
    obtain⟨IP,ho⟩:=G8 I hmv hx n
    refine⟨rfl,key I2 m k ?_⟩
    obtain⟨l1,R1,C1⟩:=Hl (s.bF n) IP hmv ho (iy.keep I.lay IP.lay ht rfl rfl (fun _ h=>h)) (R.other (s':=s.fB n) rfl rfl rfl rfl) I2
    exact⟨l1,R1,(lK.one (.other (s':=s.fB n) ⟨hmv,R,ht.ok,gq,gq,I⟩ rfl rfl rfl rfl rfl rfl rfl rfl rfl rfl rfl rfl)).trans C1⟩
   |none=>
    by_cases hs':s.pR=true
    ·simp only[hs',if_true]
     left
     obtain⟨hsc,c1,L,I2,_⟩:=BB I hmv hs'
     exact⟨rfl,key I2 L.mono ⟨L.C,L.t,L.parity,L.phase⟩ (P_ I hmv hs' R ht I2)⟩
    ·simp only[hs']
     right
     have J:=BD I hmv (by omega) hx hf hs'
     refine⟨rfl,rfl,List.length_eq_zero_iff.1 (by omega),J.refs.tn rfl, ?_,⟨J,ht,JK I J R ht⟩⟩
     rcases(I.hds.sc hmv).2 with h|h
     ·exact h
     ·exfalso
      have h1:=I.lay.lT h
      have h2:=(aA s.ws s.scan).1
      unfold af.pR at hs'
      simp only[decide_eq_true_eq]at hs'
      omega
theorem zF{s:af}{cur:List Int}(I:Inv s cur az gq gq)(hmv:s.aG=true)(ht: ∀x∈s.t,b_ s cur az x){loc:Int->Int}(R:Rep s cur az N hs K loc): ∀k:Nat,k<=s.t.length->
  ∃cur' loc',Inv (s.handles s.t k) cur' az gq gq/\Rep (s.handles s.t k) cur' az N hs K loc'/\lK az N hs K s cur loc (s.handles s.t k) cur' loc'
 |0,_=>⟨cur,loc,I,R, .refl⟩
 |k+1,hk=>by
  obtain⟨c0,l0,I0,R0,C0⟩:=zF I hmv ht R k (by omega)
  obtain⟨c1,I1,m1,a1,a2,a3,a4,a5,a6,a7,a8,a9⟩:=qx I hmv ht k (by omega)
  obtain⟨rfl,_⟩:=I0.uniq I1
  have lift: ∀{x:Int},b_ s cur az x->b_ (s.handles s.t k) c1 az x:=by
   intro x h
   rcases h with h|h|h|h
   ·exact .inl h
   ·exact .inr (.inl (by unfold bV at h⊢;rw[a1,a5];exact h))
   ·exact .inr (.inr (.inl (m1 x h)))
   ·exact .inr (.inr (.inr h))
  have ht1: ∀x∈(s.handles s.t k).t,b_ (s.handles s.t k) c1 az x:=by
   intro x hx
   obtain⟨j,hj,rfl⟩:=List.getElem_of_mem hx
   have e:(s.handles s.t k).t[j]=(s.handles s.t k).t.getD j 0:=by rw[List.getD_eq_getElem?_getD,List.getElem?_eq_getElem hj];rfl
   rw[e]
   by_cases hjk:j<k
   ·exact(a7 j hjk).qw
   ·rw[a8 j (by omega)]
    exact lift (ht _ (fE (by omega)))
  have hsrc:Src (s.handles s.t k) c1 (s.t.getD k 0):=by
   left
   rw[<-a8 k (Nat.le_refl _)]
   exact fE (by omega)
  obtain⟨c2,l2,I2,M,R2,dQ,C2⟩:=BK I1 a4 R0 ht1 (lift (ht _ (fE (l:=s.t) (j:=k) (by omega)))) hsrc
  have hg:=fun j=>wU (l:=((s.handles s.t k).move (s.t.getD k 0)).t) (i:=k) (v:=(s.handles s.t k).dA (s.t.getD k 0)) (by rw[M.t];omega) j
  have hnw: ∀j:Nat,j<((s.handles s.t k).move (s.t.getD k 0)).t.length->((s.handles s.t k).move (s.t.getD k 0)).now ((bP ((s.handles s.t k).move (s.t.getD k 0)).t k ((s.handles s.t k).dA (s.t.getD k 0))).getD j 0)=((s.handles s.t k).move (s.t.getD k 0)).now (((s.handles s.t k).move (s.t.getD k 0)).t.getD j 0):=by
   intro j hj
   rw[hg j]
   by_cases e:j=k
   ·rw[if_pos e,e,I2.lay.bM M.res,M.t,a8 k (Nat.le_refl _),dQ]
   ·rw[if_neg e]
  have ht2: ∀x∈((s.handles s.t k).move (s.t.getD k 0)).t,b_ ((s.handles s.t k).move (s.t.getD k 0)) c2 az x:=by
   intro x hx
   rw[M.t]at hx
   exact M.qw (ht1 x hx)
  exact⟨c2,l2,I2.PX _,R2.PX _ (nS ..) hnw,C0.trans (C2.more (.hdl ⟨M.aG.trans a4,R2,ht2,gq,gq,I2⟩ (nS ..) hnw))⟩
theorem NI{s:af}{cur:List Int}{loc:Int->Int}(G:Good s cur az N hs K loc)(hmv:s.aG=false):
  az=[]/\s.jh=true/\Inv s.begun [] cur gq gq/\Rep s.begun [] cur N hs K loc/\ ∃cur' loc',Good s.eY cur' cur N hs K loc'/\lK cur N hs K s.begun [] loc s.eY cur' loc':=by
 obtain⟨I,ht,R⟩:=G
 obtain⟨_,cJ,oJ,J,hJ,_⟩:=Ee I ht
 obtain⟨r1,r2,r3,r4,r5⟩:=sU I hmv
 have e0:s.jh=true:=by simp[af.jh,hmv,r5]
 have e1:s.eY=s.begun.handles s.t s.t.length:=by unfold af.eY;rw[if_pos e0]
 have B:=vF I hmv
 subst r1
 have ht2: ∀x∈s.begun.t,b_ s.begun [] cur x:=by
  intro x hx
  rcases ht x hx with h|h|h
  ·exact .inl h
  ·exact .inr (.inl h)
  ·exact .inr (.inr (.inr h))
 have RB:=Ef I hmv R ht
 obtain⟨c2,l2,I2,R2,C2⟩:=zF B rfl ht2 RB s.t.length (Nat.le_refl _)
 refine⟨rfl,e0,B,RB, ?_⟩
 rw[e1]at J hJ⊢
 have I2':Inv (s.begun.handles s.t s.t.length) c2 cur gq gq:=I2
 obtain⟨rfl,rfl⟩:=J.uniq I2'
 exact⟨_,l2,⟨J,hJ,R2⟩,C2⟩
end
end Go.Proofs.YtibemcgdmembeaaGreat
namespace Go.Proofs.YtibemcgdmembeaaGreat
open Go.RowKit
def adh(st:List Int×List Int)(x:Int):List Int×List Int:=((ac4 st.1 x).1,st.2++[(ac4 st.1 x).2])
theorem yS: ∀(n:Nat) (l:List Nat),l.Nodup->(∀x∈l,x<n)->l.length<=n
 |0,l,_,h=>by
  cases l with
  |nil=>exact Nat.le_refl _
  |cons x l=>exact absurd (h x (List.mem_cons_self ..)) (by omega)
 |n+1,l,hn,h=>by
  by_cases hm:n∈l
  ·have h1:=yS n (l.erase n) (hn.erase n) (fun x hx=>by
    have h2:=h x (List.mem_of_mem_erase hx)
    have h3:x≠n:=fun e=>by
     subst e
     exact(List.Nodup.not_mem_erase hn) hx
    omega)
   rw[List.length_erase_of_mem hm]at h1
   omega
  ·have:=yS n l hn (fun x hx=>by
    have h2:=h x hx
    have h3:x≠n:=fun e=>hm (e▸hx)
    omega)
   omega
theorem wW{n:Nat}{l:List Int}(hn:l.Nodup)(h: ∀x∈l,0<=x/\x<n):l.length<=n:=by
 have h1:(l.map Int.toNat).Nodup:=by
  induction l with
  |nil=>exact List.nodup_nil
  |cons a l ih=>
   obtain⟨n1,n2⟩:=List.nodup_cons.1 hn
   rw[List.map_cons]
   refine List.nodup_cons.2 ⟨fun hm=> ?_,ih n2 (fun x hx=>h x (List.mem_cons_of_mem _ hx))⟩
   obtain⟨b,hb,e⟩:=List.mem_map.1 hm
   have h2:=h a (List.mem_cons_self ..)
   have h3:=h b (List.mem_cons_of_mem _ hb)
   have:a=b:=by omega
   exact n1 (this▸hb)
 have h2:=yS n (l.map Int.toNat) h1 (fun x hx=>by
  obtain⟨b,hb,rfl⟩:=List.mem_map.1 hx
  have:=h b hb
  omega)
 simpa using h2
def af.hst(s:af)(k:Nat):List Int×List Int:=((s.t.take k).map s.now).foldl adh ([],[])
end Go.Proofs.YtibemcgdmembeaaGreat
