/- What Stats, Start and Step answer of a core that is as it should be. Condition: it is. -/
import Derived.Test.YtibemcgdmembeaaGreatRows
import Derived.Test.YtibemcgdmembeaaGreatZF
import Derived.Test.YtibemcgdmembeaaGreatZG
import Derived.Test.YtibemcgdmembeaaGreatZD
import Derived.Test.YtibemcgdmembeaaGreatZB
set_option linter.unusedVariables false
set_option linter.unusedSimpArgs false
set_option maxRecDepth 100000
set_option maxHeartbeats 4000000
namespace Go.Proofs.YtibemcgdmembeaaGreat
open Go.RowKit
structure jA(s:af)(cur az:List Int)(N:Int->dB)(hb:List Int)(K:Int->Prop)(loc:Int->Int)(X Z:Int->Prop):Prop where
 ph:s.phase=0∨s.phase=1∨s.phase=2
 par:s.phase≠1-> ∀n,K n->(ag s.ws (loc n)).parity=s.parity
 hd:s.phase=1-> ∀n∈hb,n≠0->(ag s.ws (loc n)).parity=s.parity
 bl:s.phase=1-> ∀n,K n-> ¬X n->(ag s.ws (loc n)).parity=s.parity->(ag s.ws (loc n)).dh=false-> ∀m∈(N n).ptrs,m≠0->(ag s.ws (loc m)).parity=s.parity
 gr: ∀a,Home s cur az a->(ag s.ws a).dh=true->s.phase=1/\ ∃n,K n/\loc n=a
 Oz: ∀n,K n->(ag s.ws (loc n)).dh=true->(∃x∈s.g.list,s.now x=loc n)∨s.g.lost=true∨Z (loc n)
 st: ∀x∈s.g.list,b_ s cur az x/\ ∃n,K n/\s.now x=loc n
 rest:s.phase≠1->s.g.list=[]/\s.g.lost=false/\s.look<0
def dG(s:af)(a:Int):Prop:=0<=s.look/\ (s.o.aH a).isSome=true/\s.o.base+s.look*s.o.words<=a
section
variable{cur az:List Int}{N:Int->dB}{hb:List Int}{K:Int->Prop}{loc:Int->Int}{X Z:Int->Prop}
theorem jA.weak{s:af}(M:jA s cur az N hb K loc X Z){hb':List Int}{X' Z':Int->Prop}(hh:s.phase=1-> ∀n∈hb',n≠0->(ag s.ws (loc n)).parity=s.parity)(hx: ∀n,X n->X' n)
  (hz: ∀n,K n->(ag s.ws (loc n)).dh=true->Z (loc n)->Z' (loc n)):jA s cur az N hb' K loc X' Z':=
 ⟨M.ph,M.par,hh,fun h n hn hx'=>M.bl h n hn (fun q=>hx' (hx n q)),M.gr,fun n hn hg=>(M.Oz n hn hg).imp id (Or.imp id (hz n hn hg)),M.st,M.rest⟩
theorem jA.keep{s s':af}(M:jA s cur az N hb K loc X Z){cur' uN:List Int}{loc':Int->Int}{Z':Int->Prop}(ep:s'.phase=s.phase)(er:s'.parity=s.parity)(eg:s'.g=s.g)(el:s'.look=s.look)
  (hA: ∀n,K n->s.phase=1->(ag s'.ws (loc' n)).parity=(ag s.ws (loc n)).parity/\ (ag s'.ws (loc' n)).dh=(ag s.ws (loc n)).dh)
  (hB: ∀n,K n->s.phase≠1->(ag s'.ws (loc' n)).parity=s.parity)(hH: ∀n,K n->Home s' cur' uN (loc' n))
  (hG: ∀a,Home s' cur' uN a->(ag s'.ws a).dh=true->s.phase=1/\ ∃n,K n/\loc' n=a)
  (hN: ∀x∈s.g.list,b_ s cur az x->b_ s' cur' uN x/\ ∀n,K n->s.now x=loc n->s'.now x=loc' n)
  (hk: ∀n∈hb,n=0∨K n)(hp: ∀n,K n-> ∀m∈(N n).ptrs,m=0∨K m)
  (hz: ∀n,K n->s.phase=1->Z (loc n)->Z' (loc' n)):jA s' cur' uN N hb K loc' X Z':=by
 refine⟨by rw[ep];exact M.ph, ?_, ?_, ?_, ?_, ?_, ?_, ?_⟩
 ·rw[ep,er]
  exact fun h n hn=>hB n hn h
 ·rw[ep,er]
  intro h n hn h0
  rw[(hA n ((hk n hn).resolve_left h0) h).1]
  exact M.hd h n hn h0
 ·rw[ep,er]
  intro h n hn hx q1 q2 m hm h0
  rw[(hA n hn h).1]at q1
  rw[(hA n hn h).2]at q2
  rw[(hA m ((hp n hn m hm).resolve_left h0) h).1]
  exact M.bl h n hn hx q1 q2 m hm h0
 ·rw[ep]
  exact hG
 ·rw[eg]
  intro n hn hg
  have h:=(hG _ (hH n hn) hg).1
  rw[(hA n hn h).2]at hg
  rcases M.Oz n hn hg with⟨x,hx,e⟩|h1|h1
  ·exact .inl ⟨x,hx,(hN x hx (M.st x hx).1).2 n hn e⟩
  ·exact .inr (.inl h1)
  ·exact .inr (.inr (hz n hn h h1))
 ·rw[eg]
  intro x hx
  obtain⟨h1,n,hn,e⟩:=M.st x hx
  exact⟨(hN x hx h1).1,n,hn,(hN x hx h1).2 n hn e⟩
 ·rw[ep,eg,el]
  exact M.rest
theorem jA.frame{s s':af}(M:jA s cur az N hb K loc X Z){E F:Int->Prop}(I:Inv s cur az E F){hs:List Int}(R:Rep s cur az N hs K loc)(ep:s'.phase=s.phase)(er:s'.parity=s.parity)(eg:s'.g=s.g)(el:s'.look=s.look)(ey:s'.y=s.y)(eC:s'.C=s.C)
  (eo: ∀b,(s'.o.aH b).isSome=(s.o.aH b).isSome)(hl:s'.ws.length=s.ws.length)
  (hh: ∀b,gQ s cur az b->(ag s'.ws b).parity=(ag s.ws b).parity/\ (ag s'.ws b).dh=(ag s.ws b).dh)(hw: ∀b∈az,bH s'.ws b=bH s.ws b)
  (hk: ∀n∈hb,n=0∨K n):jA s' cur az N hb K loc X Z:=by
 have home: ∀a,Home s' cur az a↔Home s cur az a:=by
  intro a
  unfold Home
  rw[eo]
  constructor
  ·rintro(h|h|h)
   ·exact .inl h
   ·exact .inr (.inl h)
   ·exact .inr (.inr ⟨h.1,by rw[<-hw a h.1];exact h.2⟩)
  ·rintro(h|h|h)
   ·exact .inl h
   ·exact .inr (.inl h)
   ·exact .inr (.inr ⟨h.1,by rw[hw a h.1];exact h.2⟩)
 refine M.keep ep er eg el (fun n hn _=>hh _ (R.pl n hn).kE) (fun n hn h=>by rw[(hh _ (R.pl n hn).kE).1];exact M.par h n hn) (fun n hn=>(home _).2 (R.pl n hn)) ?_ ?_ hk R.pk (fun n hn _ hz=>hz)
 ·intro a ha hg
  have ha':=(home a).1 ha
  rw[(hh a ha'.kE).2]at hg
  exact M.gr a ha' hg
 ·intro x hx hO
  refine⟨?_,fun n hn e=>by rw[m_ I.lay ey hw hO];exact e⟩
  unfold b_ bV at hO⊢
  rw[eC,hl]
  exact hO
theorem ny{s s':af}(el:s'.look=s.look)(eb:s'.o.base=s.o.base)(ew:s'.o.words=s.o.words){a:Int}(h:(s.o.aH a).isSome=true->(s'.o.aH a).isSome=true)(hz:dG s a):dG s' a:=by
 unfold dG at hz⊢
 rw[el,eb,ew]
 exact⟨hz.1,h hz.2.1,hz.2.2⟩
theorem jA.note{s:af}(M:jA s cur az N hb K loc X Z){E F:Int->Prop}(I:Inv s cur az E F){hs:List Int}(R:Rep s cur az N hs K loc)(hk: ∀n∈hb,n=0∨K n){a:Int}(ha:(s.o.aH a).isSome=true):jA (s.note a) cur az N hb K loc X Z:=by
 obtain⟨m1,m2,m3,m4,m5,m6,m7,m8,m9,m10,m11,m12,m13⟩:=jm s a
 obtain⟨I3,n1,n2,n3,n4,n5,n6,n7⟩:=rQ I ha
 refine M.frame I R m4 m3 m10 m12 m9 m1 (fun b=>by rw[m7]) n2 ?_ (fun b hb=>(n4 b (.inr (.inl hb))).2.2.2.2) hk
 intro b hb
 unfold af.note
 split
 ·have hg:({ag s.ws a with aY:=true}:Hd).Good:=dU (oU s.ws a)
  have S:=(KY I.lay I.hds ha hg rfl (show({ag s.ws a with aY:=true}:Hd).old=true from(I.hds.Dw a ha).2.1)).1
  show(ag (iQ s.ws a _) b).parity=_/\ (ag (iQ s.ws a _) b).dh=_
  rw[S.hd b hb]
  split
  ·rename_i e
   rw[e]
   exact⟨rfl,rfl⟩
  ·exact⟨rfl,rfl⟩
 ·exact⟨rfl,rfl⟩
theorem jA.setRef{s:af}(M:jA s cur az N hb K loc X Z){E F:Int->Prop}(I:Inv s cur az E F){hs:List Int}(R:Rep s cur az N hs K loc)(hk: ∀n∈hb,n=0∨K n){a k T:Int}(ha:a∈cur∨(s.o.aH a).isSome=true)(k0:0<=k)(k1:k<(ag s.ws a).ptrs)(hT:bT s cur T):
  jA {s with ws:=iQ s.ws (place a k) (u64 T)} cur az N hb K loc X Z:=by
 obtain⟨I2,r1,r2,r3,r4,r5⟩:=kN (E:=fun b=>E b∨b=a) (F:=F) (I.weak (fun b h=> .inl h) (fun b h=>h)) (ha.elim .inl (fun h=> .inr ⟨h, .inr rfl⟩)) k0 k1 hT
 have same: ∀b,gQ s cur az b->ag (iQ s.ws (place a k) (u64 T)) b=ag s.ws b/\bH (iQ s.ws (place a k) (u64 T)) b=bH s.ws b:=by
  intro b hb
  by_cases e:b=a
  ·rw[e]
   exact⟨r3,r4⟩
  ·obtain⟨q1,q2,q3,q4⟩:=I.lay.pos hb
   obtain⟨c1,c2,c3,c4,c5⟩:=aA s.ws b
   have S:=r2 b hb e
   exact⟨S.head (by omega),S.way (by omega) (by omega) q3⟩
 exact M.frame (s':={s with ws:=iQ s.ws (place a k) (u64 T)}) I R rfl rfl rfl rfl rfl rfl (fun b=>rfl) (iC ..) (fun b hb=>by
  show(ag (iQ s.ws (place a k) (u64 T)) b).parity=_/\ (ag (iQ s.ws (place a k) (u64 T)) b).dh=_
  rw[(same b hb).1]
  exact⟨rfl,rfl⟩) (fun b hb=>(same b (.inr (.inl hb))).2) hk
theorem NH.rW{s s':af}{cur':List Int}{loc':Int->Int}{hs:List Int}(m:NH az N hs K s cur loc s' cur' loc')(hk: ∀n∈hb,n=0∨K n)(T:jA s cur az N hb K loc X (dG s)):jA s' cur' az N hb K loc' X (dG s'):=by
 cases m with
 | @mv a _ MD ha hw hsrc MT hmono hT=>
  obtain⟨hmv,R,ht,E,F,I⟩:=MD
  have R':=R.moved I ha hw MT hmono hT ht
  obtain⟨o1,o2,o3,o4,o5,o6,o7,o8,o9,RP,KX⟩:=kM s a
  have hta:s.kD a≠a:=fun e=>MT.new (by rw[e];exact .inr (.inl ha))
  have hHa:Home s cur az a:= .inr (.inr ⟨ha,hw⟩)
  have XH:(s.phase=1->(s.sO a).parity=(ag s.ws a).parity/\ (s.sO a).dh=(ag s.ws a).dh)/\ (s.phase≠1->(s.sO a).parity=s.parity/\ (s.sO a).dh=false):=by
   unfold af.sO
   exact⟨fun h=>by rw[if_pos h];exact⟨rfl,rfl⟩,fun h=>by rw[if_neg h];exact⟨rfl,rfl⟩⟩
  have sm: ∀b,gQ s cur az b->b≠a->ag (s.moved a).ws b=ag s.ws b/\bH (s.moved a).ws b=bH s.ws b:=by
   intro b hb hba
   have S:=MT.rest b hb hba
   obtain⟨p1,p2,p3,p4⟩:=I.lay.pos hb
   obtain⟨b1,b2,b3,b4,b5⟩:=aA s.ws b
   exact⟨S.head (by omega),S.way (by omega) (by omega) p3⟩
  refine T.keep o6 o5 o3 o9 ?_ ?_ R'.pl ?_ ?_ hk R.pk ?_
  ·intro n hn h
   show(ag (s.moved a).ws (if loc n=a then s.kD a else loc n)).parity=_/\ (ag (s.moved a).ws (if loc n=a then s.kD a else loc n)).dh=_
   by_cases e:loc n=a
   ·rw[if_pos e,MT.JC,e]
    exact XH.1 h
   ·rw[if_neg e,(sm _ (R.pl n hn).kE e).1]
    exact⟨rfl,rfl⟩
  ·intro n hn h
   show(ag (s.moved a).ws (if loc n=a then s.kD a else loc n)).parity=_
   by_cases e:loc n=a
   ·rw[if_pos e,MT.JC]
    exact(XH.2 h).1
   ·rw[if_neg e,(sm _ (R.pl n hn).kE e).1]
    exact T.par h n hn
  ·intro b hb hg
   by_cases e:b=s.kD a
   ·rw[e,MT.JC]at hg
    by_cases h:s.phase=1
    ·rw[(XH.1 h).2]at hg
     obtain⟨_,n,hn,hl⟩:=T.gr a hHa hg
     exact⟨h,n,hn,by show(if loc n=a then s.kD a else loc n)=b;rw[if_pos hl,e]⟩
    ·rw[(XH.2 h).2]at hg
     cases hg
   ·have hba:b≠a:=by
     intro e2
     rw[e2]at hb
     rcases hb with h|h|h
     ·rw[MT.PR]at h
      have h2:=I.lay.gz ha
      have h3:a∈cur:=by
       split at h
       ·exact h
       ·rcases List.mem_append.1 h with h|h
        ·exact h
        ·exact absurd (List.mem_singleton.1 h).symm hta
      rw[I.lay.fK (.inl h3)]at h2
      cases h2
     ·rw[MT.size a (.inl (fun e=>hta e.symm))]at h
      have h2:=I.lay.gz ha
      rw[I.lay.fK (.inr h)]at h2
      cases h2
     ·rw[MT.RJ]at h
      exact hta h.2
    have hb':Home s cur az b:=by
     rcases hb with h|h|h
     ·rw[MT.PR]at h
      split at h
      ·exact .inl h
      ·rcases List.mem_append.1 h with h|h
       ·exact .inl h
       ·exact absurd (List.mem_singleton.1 h) e
     ·rw[MT.size b (.inl e)]at h
      exact .inr (.inl h)
     ·exact .inr (.inr ⟨h.1,by rw[<-(sm b (.inr (.inl h.1)) hba).2];exact h.2⟩)
    rw[(sm b hb'.kE hba).1]at hg
    obtain⟨h,n,hn,hl⟩:=T.gr b hb' hg
    exact⟨h,n,hn,by show(if loc n=a then s.kD a else loc n)=b;rw[if_neg (by rw[hl];exact hba),hl]⟩
  ·intro x hx hO
   refine⟨?_,fun n hn e=> ?_⟩
   ·rcases hO with h|h|h|h
    ·exact .inl h
    ·exact .inr (.inl (by unfold bV at h⊢;rw[o1,MT.wl];exact h))
    ·exact .inr (.inr (.inl (hmono x h)))
    ·exact .inr (.inr (.inr h))
   ·rw[vG I ha hw MT hO,e]
  ·intro n hn _ hz
   have e:loc n≠a:=by
    intro e
    have h2:=I.lay.gz ha
    rw[<-e,I.lay.fK (.inr hz.2.1)]at h2
    cases h2
   show dG (s.moved a) (if loc n=a then s.kD a else loc n)
   rw[if_neg e]
   refine ny o9 (by rw[MT.lay.ob,I.lay.ob,o1]) (by rw[MT.lay.ow,I.lay.ow,o1]) (fun h=> ?_) hz
   rw[MT.size _ (.inl (fun e2=>MT.new (.inr (.inr (e2▸h)))))]
   exact h
 | @ref a k T' MD ha k0 k1 hT hn=>
  obtain⟨hmv,R,ht,E,F,I⟩:=MD
  exact T.setRef I R hk ha k0 k1 hT
 | @note a MD ha=>
  obtain⟨hmv,R,ht,E,F,I⟩:=MD
  obtain⟨m1,m2,m3,m4,m5,m6,m7,m8,m9,m10,m11,m12,m13⟩:=jm s a
  exact(T.note I R hk ha).weak (fun h n hn h0=>(T.note I R hk ha).hd h n hn h0) (fun _ h=>h) (fun n _ _ hz=>ny m12 (by rw[m7]) (by rw[m7]) (fun h=>by rw[m7];exact h) hz)
 | @dL a MD ha=>
  obtain⟨hmv,R,ht,E,F,I⟩:=MD
  obtain⟨I1,u1,u2,u3,u4,u5,u6⟩:=sS (E':=fun b=>E b∨b=a) (F':=F) I ha (fun b h=> .inl h) (.inr rfl) (fun _ _ h=>h)
  refine T.frame (s':=s.dL a) I R rfl rfl rfl rfl rfl rfl (fun b=>rfl) u3 (fun b hb=> ?_) (fun b hb=>u5 b (.inr (.inl hb))) hk
  by_cases e:b=a
  ·rw[e,u1]
   exact⟨rfl,rfl⟩
  ·rw[u2 b hb e]
   exact⟨rfl,rfl⟩
 |other MD h1 h2 h3 h4 h5 h6 h7 h8 h9 h10 h11 h12=>
  obtain⟨hmv,R,ht,E,F,I⟩:=MD
  have J:=T.frame (s':=s') I R h8 h7 h6 h10 h3 h1 (fun b=>by rw[h4]) (by rw[h2]) (fun b hb=>by rw[h2];exact⟨rfl,rfl⟩) (fun b hb=>by rw[h2]) hk
  exact J.weak (fun h n hn h0=>J.hd h n hn h0) (fun _ h=>h) (fun n _ _ hz=>ny h10 (by rw[h4]) (by rw[h4]) (fun h=>by rw[h4];exact h) hz)
 |hdl MD h1 h2=>
  obtain⟨hmv,R,ht,E,F,I⟩:=MD
  exact T.frame (s':={s with t:=_}) I R rfl rfl rfl rfl rfl rfl (fun b=>rfl) rfl (fun b hb=>⟨rfl,rfl⟩) (fun b hb=>rfl) hk
theorem lK.rW{s s':af}{cur':List Int}{loc':Int->Int}{hs:List Int}(m:lK az N hs K s cur loc s' cur' loc')(hk: ∀n∈hb,n=0∨K n)(T:jA s cur az N hb K loc X (dG s)):jA s' cur' az N hb K loc' X (dG s'):=
 m.keep (P:=fun s cur loc=>jA s cur az N hb K loc X (dG s)) (fun mm T=>mm.rW hk T) T
theorem jA.begun{s:af}{hs:List Int}(M:jA s cur az N hb K loc X (dG s))(G:Good s cur az N hs K loc)(hmv:s.aG=false)(hk: ∀n∈hb,n=0∨K n):jA s.begun [] cur N hb K loc X (dG s.begun):=by
 have ho:=G.inv.hds.nm hmv
 subst ho
 have B:=vF G.inv hmv
 have RB:=Ef G.inv hmv G.rep G.hdl
 have home: ∀a,Home s.begun [] cur a->Home s cur [] a:=by
  rintro a (h|h|h)
  ·cases h
  ·exact .inr (.inl h)
  ·exact .inl h.1
 refine M.keep rfl rfl rfl rfl (fun n hn _=>⟨rfl,rfl⟩) (fun n hn h=>M.par h n hn) RB.pl (fun a ha hg=>M.gr a (home a ha) hg) ?_ hk G.rep.pk (fun n hn _ hz=>hz)
 intro x hx hO
 have hnew:bT s cur x:=by
  rcases hO with h|h|h|h
  ·exact .inl h
  ·exact .inr (.inl h)
  ·exact .inr (.inr h)
  ·cases h
 have dQ:s.begun.now x=s.now x:=by
  rw[G.inv.lay.bM hnew]
  rcases hnew with h|h|h
  ·exact B.lay.bM (.inl h)
  ·exact B.lay.bM (.inr (.inl h))
  ·rw[B.lay.iw h]
   exact(G.inv.hds.Dv x h).2.2.2
 refine⟨?_,fun n hn e=>by rw[dQ,e]⟩
 rcases hnew with h|h|h
 ·exact .inl h
 ·exact .inr (.inl h)
 ·exact .inr (.inr (.inr h))
theorem NW{g:bZ}{x:Int}(h:(g.list.length:Int)<g.most):g.push x={g with list:=g.list++[x]}:=by
 unfold bZ.push bZ.full
 rw[if_neg]
 simp only[decide_eq_true_eq]
 omega
theorem Ih(g:bZ)(l:List Int)(h:(l.length:Int)<=g.most):g.put l={g with list:=l}:=by
 have key: ∀(l:List Int) (g:bZ),(g.list.length:Int)+l.length<=g.most->l.foldl bZ.push g={g with list:=g.list++l}:=by
  intro l
  induction l with
  |nil=>intro g _;simp
  |cons x l ih=>
   intro g hg
   simp only[List.length_cons]at hg
   rw[List.foldl_cons,NW (by omega),ih _ (by simp only[List.length_append,List.length_cons,List.length_nil];omega)]
   simp
 unfold bZ.put
 rw[key l _ (by simpa using h)]
 simp
theorem jA.finish{s:af}{hs:List Int}(M:jA s cur az N hb K loc X (dG s))(G:Good s cur az N hs K loc)(G':Good s.gK cur [] N hs (fun n=>K n/\loc n∉az) loc)(hm:(s.g.list.length:Int)<=s.g.most):jA s.gK cur [] N hb (fun n=>K n/\loc n∉az) loc X (dG s.gK):=by
 have hgl:=Ih s.g (s.dN s.g.list) (by have:=mZ s s.g.list;omega)
 have el:s.gK.g.list=s.dN s.g.list:=by show(s.g.put _).list=_;rw[hgl]
 have eo:s.gK.g.lost=s.g.lost:=by show(s.g.put _).lost=_;rw[hgl]
 have home: ∀a,Home s.gK cur [] a->Home s cur az a:=by
  rintro a (h|h|h)
  ·exact .inl h
  ·exact .inr (.inl h)
  ·cases h.1
 have stay: ∀n,K n->loc n∉az->bT s cur (loc n):=by
  intro n hn ho
  rcases G.rep.pl n hn with h|h|h
  ·exact .inr (.inr h)
  ·exact .inr (.inl (G.inv.lay.kC h))
  ·exact absurd h.1 ho
 have Sl: ∀n,K n->loc n∉az->s.y.dI (loc n)=false:=by
  intro n hn ho
  rcases G.rep.pl n hn with h|h|h
  ·exact G.inv.lay.fK (.inl h)
  ·exact G.inv.lay.fK (.inr h)
  ·exact absurd h.1 ho
 refine⟨M.ph,fun h n hn=>M.par h n hn.1,M.hd,fun h n hn=>M.bl h n hn.1, ?_, ?_, ?_, ?_⟩
 ·intro a ha hg
  obtain⟨h1,n,hn,e⟩:=M.gr a (home a ha) hg
  refine⟨h1,n,⟨hn, ?_⟩,e⟩
  intro ho
  have h2:=G.inv.lay.gz ho
  rcases ha with h|h|h
  ·rw[e,G.inv.lay.fK (.inl h)]at h2
   cases h2
  ·rw[e,G.inv.lay.fK (.inr h)]at h2
   cases h2
  ·cases h.1
 ·intro n hn hg
  rcases M.Oz n hn.1 hg with⟨x,hx,e⟩|h|h
  ·left
   refine⟨loc n, ?_, ?_⟩
   ·rw[el]
    unfold af.dN
    rw[List.mem_filter]
    refine⟨List.mem_map.2 ⟨x,hx,e⟩, ?_⟩
    rw[Sl n hn.1 hn.2]
    rfl
   ·exact G'.inv.lay.bM (s:=s.gK) (stay n hn.1 hn.2)
  ·exact .inr (.inl (by rw[eo];exact h))
  ·exact .inr (.inr h)
 ·intro x hx
  rw[el]at hx
  unfold af.dN at hx
  rw[List.mem_filter]at hx
  obtain⟨h1,h2⟩:=hx
  obtain⟨y,hy,e⟩:=List.mem_map.1 h1
  obtain⟨h3,n,hn,e2⟩:=M.st y hy
  have exl:x=loc n:=e.symm.trans e2
  have ho:loc n∉az:=by
   intro ho
   rw[exl,G.inv.lay.gz ho]at h2
   cases h2
  rw[exl]
  refine⟨?_,n,⟨hn,ho⟩,G'.inv.lay.bM (s:=s.gK) (stay n hn ho)⟩
  rcases stay n hn ho with h|h|h
  ·exact .inl h
  ·exact .inr (.inl h)
  ·exact .inr (.inr (.inl h))
 ·intro h
  obtain⟨r1,r2,r3⟩:=M.rest h
  refine⟨?_,by rw[eo];exact r2,r3⟩
  rw[el,r1]
  rfl
end
end Go.Proofs.YtibemcgdmembeaaGreat
namespace Go.Proofs.YtibemcgdmembeaaGreat
open Go.RowKit
section
variable{cur az:List Int}{N:Int->dB}{hs hb:List Int}{K:Int->Prop}{loc:Int->Int}{X Z:Int->Prop}
theorem Qh{s:af}{E F:Int->Prop}(I:Inv s cur az E F){x:Int}(hx:b_ s cur az x)(h:s.now x=0):x=0:=by
 rcases hx with h1|h1|h1|h1
 ·exact h1
 ·rw[I.lay.bM (.inr (.inl h1))]at h
  exact h
 ·rw[I.lay.bM (.inr (.inr h1))]at h
  exact h
 ·rw[I.lay.iw h1]at h
  rcases(I.hds.Fg x h1).2.2.2 with h2|h2|h2
  ·rw[h2]at h;exact h
  ·rw[h]at h2
   exact absurd rfl (I.lay.not_zero (.inl h2))
  ·rw[h]at h2
   have:=I.lay.nums
   unfold bV at h2
   omega
theorem Ci{s:af}{E F:Int->Prop}(I:Inv s cur az E F){a:Int}(h:Home s cur az a):s.now a=a:=by
 rcases h with h|h|⟨h,h2⟩
 ·exact I.lay.bM (.inr (.inr h))
 ·exact I.lay.bM (.inr (.inl (I.lay.kC h)))
 ·rw[I.lay.iw h];exact h2
theorem FI{s:af}{E F:Int->Prop}(I:Inv s cur az E F){a:Int}(h:Home s cur az a):b_ s cur az a:=by
 rcases h with h|h|h
 ·exact .inr (.inr (.inl h))
 ·exact .inr (.inl (I.lay.kC h))
 ·exact .inr (.inr (.inr h.1))
inductive ZH(cur az:List Int)(K:Int->Prop)(loc:Int->Int):af->af->Prop
 |found {s s':af} (n:Int) (hn:K n) (h1:s.phase=1) (hp:(ag s.ws (loc n)).parity≠s.parity) (S:mO s s') (hA:ag s'.ws (loc n)={ag s.ws (loc n)with parity:=s.parity,dh:=true})
   (hB: ∀b,gQ s cur az b->b≠loc n->ag s'.ws b=ag s.ws b) (hg:s'.g=s.g.push (loc n)):ZH cur az K loc s s'
 |black {s s':af} (n:Int) (hn:K n) (hp:(ag s.ws (loc n)).dh=true) (S:mO s s') (hA:ag s'.ws (loc n)={ag s.ws (loc n)with dh:=false})
   (hB: ∀b,gQ s cur az b->b≠loc n->ag s'.ws b=ag s.ws b) (hg:s'.g=s.g):ZH cur az K loc s s'
inductive Zt(cur az:List Int)(K:Int->Prop)(loc:Int->Int):af->af->Prop
 |refl (s:af):Zt cur az K loc s s
 |more {a b c:af} (x:Zt cur az K loc a b) (y:ZH cur az K loc b c):Zt cur az K loc a c
theorem ZH.one{s s':af}(x:ZH cur az K loc s s'):Zt cur az K loc s s':= .more (.refl _) x
theorem Zt.trans{a b c:af}(x:Zt cur az K loc a b)(y:Zt cur az K loc b c):Zt cur az K loc a c:=by
 induction y with
 |refl=>exact x
 |more _ z ih=>exact .more ih z
structure Mk(s s':af)(cur az:List Int)(N:Int->dB)(hs hb:List Int)(K:Int->Prop)(loc:Int->Int)(X Z:Int->Prop):Prop where
 good:Good s' cur az N hs K loc
 rW:jA s' cur az N hb K loc X Z
 same:mO s s'
 bk: ∀n,K n->(ag s.ws (loc n)).parity=s.parity->(ag s'.ws (loc n)).parity=s.parity
 hz: ∀b,gQ s cur az b->(ag s'.ws b).size=(ag s.ws b).size/\ (ag s'.ws b).ptrs=(ag s.ws b).ptrs/\bH s'.ws b=bH s.ws b
 ch:Zt cur az K loc s s'
theorem Mk.refl{s:af}(G:Good s cur az N hs K loc)(M:jA s cur az N hb K loc X Z):Mk s s cur az N hs hb K loc X Z:=⟨G,M, .refl s,fun _ _ h=>h,fun _ _=>⟨rfl,rfl,rfl⟩, .refl s⟩
theorem Qi{s s':af}(h:mO s s'){b:Int}(hb:gQ s cur az b):gQ s' cur az b:=by
 unfold gQ at hb⊢
 rw[h.o]
 exact hb
theorem Mk.trans{a b c:af}{hb':List Int}{X' Z':Int->Prop}(x:Mk a b cur az N hs hb K loc X Z)(y:Mk b c cur az N hs hb' K loc X' Z'):Mk a c cur az N hs hb' K loc X' Z':=by
 refine⟨y.good,y.rW,x.same.trans y.same,fun n hn h=> ?_,fun o ho=> ?_,x.ch.trans y.ch⟩
 ·have:=y.bk n hn (by rw[x.same.parity];exact x.bk n hn h)
  rw[x.same.parity]at this
  exact this
 ·obtain⟨h1,h2,h3⟩:=x.hz o ho
  obtain⟨k1,k2,k3⟩:=y.hz o (Qi x.same ho)
  exact⟨k1.trans h1,k2.trans h2,k3.trans h3⟩
theorem FK{s:af}(G:Good s cur az N hs K loc)(M:jA s cur az N hb K loc X Z)(hk: ∀n∈hb,n=0∨K n){i m:Int}(hm:m=0∨K m)(hi:s.now i=loc m)(hO:b_ s cur az i):
  Mk s (s.mark i) cur az N hs hb K loc X Z/\ (s.phase=1->m≠0->(ag (s.mark i).ws (loc m)).parity=s.parity):=by
 have hms:=nR s i
 by_cases hq:s.qL i=true
 ·have hq':=hq
  unfold af.qL at hq'
  simp only[Bool.and_eq_true,Bool.not_eq_true',decide_eq_false_iff_not,decide_eq_true_eq]at hq'
  obtain⟨⟨q1,q2⟩,q3⟩:=hq'
  have hm0:m≠0:=by
   intro e
   rw[e,G.rep.l0]at hi
   exact q1 (Qh G.inv hO hi)
  have hK:K m:=hm.resolve_left hm0
  have VP:=G.rep.pl m hK
  have ha:=VP.kE
  have ha':i≠0->gQ s cur az (s.now i):=fun _=>by rw[hi];exact ha
  obtain⟨k1,k2,k3,k4,k5,k6,k7,k8,k9⟩:=JL G.inv ha' G.rep G.hdl
  have eM:s.mark i={s with ws:=iQ s.ws (s.now i) {ag s.ws (s.now i)with parity:=s.parity,dh:=true}.enc,g:=s.g.push (s.now i)}:=by unfold af.mark;rw[if_pos hq]
  obtain⟨M1,M2,M3⟩:=yR G.inv (ha' q1) (s.g.push (s.now i)) s.parity G.inv.hds.par true
  rw[<-eM]at M1
  rw[hi]at M1 M2 M3 q3 eM
  have hdA:ag (s.mark i).ws (loc m)={ag s.ws (loc m)with parity:=s.parity,dh:=true}:=by rw[eM];exact M2
  have hdB: ∀b,gQ s cur az b->b≠loc m->ag (s.mark i).ws b=ag s.ws b:=fun b hb e=>((iW.at G.inv ha M1 hb).2.2.2.2.2.2.2.2 e).2
  have hgL:(s.mark i).g=s.g.push (loc m):=by rw[eM]
  have dQ: ∀x,b_ s cur az x->(s.mark i).now x=s.now x:=fun x hx=>M1.now G.inv ha hx
  have okR: ∀x,b_ s cur az x->b_ (s.mark i) cur az x:=fun x hx=>by unfold b_ bV at hx⊢;rw[hms.C,hms.wl];exact hx
  have YX:(s.mark i).phase=1:=by rw[hms.phase,q2]
  have bk: ∀n,K n->(ag s.ws (loc n)).parity=s.parity->(ag (s.mark i).ws (loc n)).parity=s.parity:=by
   intro n hn h
   by_cases e:loc n=loc m
   ·rw[e,hdA]
   ·rw[hdB _ (G.rep.pl n hn).kE e];exact h
  have pin: ∀x∈s.g.list,x∈(s.g.push (loc m)).list:=by
   intro x hx
   unfold bZ.push
   split
   ·exact hx
   ·exact List.mem_append_left _ hx
  have WU:s.g.lost=true->(s.g.push (loc m)).lost=true:=by
   intro h
   unfold bZ.push
   split
   ·rfl
   ·exact h
  refine⟨⟨⟨k1,k3,k2⟩,⟨by rw[hms.phase];exact M.ph, ?_, ?_, ?_, ?_, ?_, ?_, ?_⟩,hms,bk,fun b hb=> ?_,(ZH.found m hK q2 q3 hms hdA hdB hgL).one⟩,fun _ _=>by rw[hdA]⟩
  ·intro h
   exact absurd YX h
  ·intro _ n hn h0
   rw[hms.parity]
   exact bk n ((hk n hn).resolve_left h0) (M.hd q2 n hn h0)
  ·intro _ n hn hx h1 h2 x hxm h0
   rw[hms.parity]at h1⊢
   by_cases e:loc n=loc m
   ·rw[e,hdA]at h2
    cases h2
   ·rw[hdB _ (G.rep.pl n hn).kE e]at h1 h2
    exact bk x ((G.rep.pk n hn x hxm).resolve_left h0) (M.bl q2 n hn hx h1 h2 x hxm h0)
  ·intro b hb hg
   refine⟨YX, ?_⟩
   by_cases e:b=loc m
   ·exact⟨m,hK,e.symm⟩
   ·have hb':Home s cur az b:=by
     rcases hb with h|h|h
     ·exact .inl h
     ·exact .inr (.inl (by rw[hms.o]at h;exact h))
     ·exact .inr (.inr ⟨h.1,by rw[<-(iW.at G.inv ha M1 (.inr (.inl h.1))).2.2.2.2.2.1];exact h.2⟩)
    rw[hdB _ hb'.kE e]at hg
    exact(M.gr b hb' hg).2
  ·intro n hn hg
   rw[hgL]
   by_cases e:loc n=loc m
   ·by_cases hf:s.g.full=true
    ·exact .inr (.inl (by unfold bZ.push;rw[if_pos hf]))
    ·refine .inl ⟨loc m, ?_, ?_⟩
     ·unfold bZ.push
      rw[if_neg hf]
      simp
     ·rw[dQ _ (FI G.inv VP),Ci G.inv VP,e]
   ·rw[hdB _ (G.rep.pl n hn).kE e]at hg
    rcases M.Oz n hn hg with⟨x,hx,e2⟩|h|h
    ·exact .inl ⟨x,pin x hx,by rw[dQ x (M.st x hx).1];exact e2⟩
    ·exact .inr (.inl (WU h))
    ·exact .inr (.inr h)
  ·intro x hx
   rw[hgL]at hx
   have hx':x∈s.g.list∨x=loc m:=by
    unfold bZ.push at hx
    split at hx
    ·exact .inl hx
    ·rcases List.mem_append.1 hx with h|h
     ·exact .inl h
     ·exact .inr (List.mem_singleton.1 h)
   rcases hx' with h|h
   ·obtain⟨h1,n,hn,e⟩:=M.st x h
    exact⟨okR x h1,n,hn,by rw[dQ x h1];exact e⟩
   ·rw[h]
    exact⟨okR _ (FI G.inv VP),m,hK,by rw[dQ _ (FI G.inv VP),Ci G.inv VP]⟩
  ·intro h
   exact absurd YX h
  ·obtain⟨c1,c2,c3,c4,c5,c6,c7,c8,c9⟩:=iW.at G.inv ha M1 hb
   exact⟨c1,c2,c6⟩
 ·have eM:s.mark i=s:=by unfold af.mark;rw[if_neg hq]
  rw[eM]
  refine⟨.refl G M,fun h1 h0=> ?_⟩
  have hK:K m:=hm.resolve_left h0
  have hi0:i≠0:=by
   intro e
   rw[e,G.inv.lay.bM (.inl rfl)]at hi
   exact G.inv.lay.not_zero (G.rep.pl m hK).kE hi.symm
  unfold af.qL at hq
  simp only[Bool.and_eq_true,Bool.not_eq_true',decide_eq_false_iff_not,decide_eq_true_eq,not_and,Decidable.not_not]at hq
  have:=hq ⟨hi0,h1⟩
  rw[hi]at this
  exact this
theorem Good.isRef{s:af}(G:Good s cur az N hs K loc){n:Int}(hn:K n){j:Nat}(hj:j<(N n).ptrs.length):b_ s cur az (aQ s.ws (loc n) j)/\s.now (aQ s.ws (loc n) j)=loc ((N n).ptrs.getD j 0)/\ ((N n).ptrs.getD j 0=0∨K ((N n).ptrs.getD j 0)):=by
 have hpn:=G.rep.pn n hn
 exact⟨G.inv.jF (G.rep.pl n hn).kE (by omega) (by omega),G.rep.pt n hn j hj,G.rep.pk n hn _ (fE hj)⟩
theorem Ll{s:af}(G:Good s cur az N hs K loc)(M:jA s cur az N hb K loc X Z)(hk: ∀n∈hb,n=0∨K n){n:Int}(hn:K n): ∀k:Nat,k<=(N n).ptrs.length->
  Mk s (s.vS (loc n) k) cur az N hs hb K loc X Z/\ (s.phase=1-> ∀j:Nat,j<k->(N n).ptrs.getD j 0≠0->(ag (s.vS (loc n) k).ws (loc ((N n).ptrs.getD j 0))).parity=s.parity)
 |0,_=>⟨.refl G M,fun _ j hj=>by omega⟩
 |k+1,h=>by
  obtain⟨A,B⟩:=Ll G M hk hn k (by omega)
  obtain⟨r1,r2,r3⟩:=A.good.isRef hn (j:=k) (by omega)
  obtain⟨A2,B2⟩:=FK A.good A.rW hk r3 r2 r1
  refine⟨A.trans A2,fun h1 j hj h0=> ?_⟩
  by_cases e:j=k
  ·subst e
   have:=B2 (by rw[A.same.phase];exact h1) h0
   rw[A.same.parity]at this
   exact this
  ·have h3:=B h1 j (by omega) h0
   have:=A2.bk _ ((G.rep.pk n hn _ (fE (by omega))).resolve_left h0) (by rw[A.same.parity];exact h3)
   rw[A.same.parity]at this
   exact this
theorem NY{s:af}(G:Good s cur az N hs K loc)(M:jA s cur az N hb K loc X Z)(hk: ∀n∈hb,n=0∨K n){n:Int}(hn:K n){Z':Int->Prop}(hZ: ∀a,a≠loc n->Z a->Z' a)(hgr:(ag s.ws (loc n)).dh=true):Mk s (s.kP (loc n)) cur az N hs hb K loc (fun m=>X m∨m=n) Z':=by
 have hHn:=G.rep.pl n hn
 have ha:=hHn.kE
 have hp:(ag s.ws (loc n)).parity=0∨(ag s.ws (loc n)).parity=1:=by
  obtain⟨g1,g2,g3,g4,g5,g6,g7⟩:=dU (oU s.ws (loc n))
  exact g7
 obtain⟨M1,M2,M3⟩:=yR G.inv ha s.g (ag s.ws (loc n)).parity hp false
 have eU:s.kP (loc n)={s with ws:=iQ s.ws (loc n) {ag s.ws (loc n)with parity:=(ag s.ws (loc n)).parity,dh:=false}.enc,g:=s.g}:=rfl
 rw[<-eU]at M1
 have hms:=zI s (loc n)
 have hdA:ag (s.kP (loc n)).ws (loc n)={ag s.ws (loc n)with dh:=false}:=M2
 have hdB: ∀b,gQ s cur az b->b≠loc n->ag (s.kP (loc n)).ws b=ag s.ws b:=fun b hb e=>((iW.at G.inv ha M1 hb).2.2.2.2.2.2.2.2 e).2
 have hpar: ∀b,gQ s cur az b->(ag (s.kP (loc n)).ws b).parity=(ag s.ws b).parity:=by
  intro b hb
  by_cases e:b=loc n
  ·rw[e,hdA]
  ·rw[hdB b hb e]
 have dQ: ∀x,b_ s cur az x->(s.kP (loc n)).now x=s.now x:=fun x hx=>M1.now G.inv ha hx
 have okR: ∀x,b_ s cur az x->b_ (s.kP (loc n)) cur az x:=fun x hx=>by unfold b_ bV at hx⊢;rw[hms.C,hms.wl];exact hx
 refine⟨⟨M1.inv G.inv ha M3,M1.hdl G.hdl,M1.rep G.inv ha G.rep G.hdl.ok⟩,⟨M.ph, ?_, ?_, ?_, ?_, ?_, ?_,M.rest⟩,hms, ?_, ?_, ?_⟩
 ·intro h m hm
  rw[hpar _ (G.rep.pl m hm).kE]
  exact M.par h m hm
 ·intro h m hm h0
  rw[hpar _ (G.rep.pl m ((hk m hm).resolve_left h0)).kE]
  exact M.hd h m hm h0
 ·intro h m hm hx h1 h2 x hxm h0
  have e:loc m≠loc n:=fun e=>hx (.inr (G.rep.inj m n hm hn e))
  rw[hdB _ (G.rep.pl m hm).kE e]at h1 h2
  rw[hpar _ (G.rep.pl x ((G.rep.pk m hm x hxm).resolve_left h0)).kE]
  exact M.bl h m hm (fun q=>hx (.inl q)) h1 h2 x hxm h0
 ·intro b hb hg
  have hb':Home s cur az b:=by
   rcases hb with h|h|h
   ·exact .inl h
   ·exact .inr (.inl h)
   ·exact .inr (.inr ⟨h.1,by rw[<-(iW.at G.inv ha M1 (.inr (.inl h.1))).2.2.2.2.2.1];exact h.2⟩)
  by_cases e:b=loc n
  ·rw[e,hdA]at hg
   cases hg
  ·rw[hdB _ hb'.kE e]at hg
   exact M.gr b hb' hg
 ·intro m hm hg
  by_cases e:loc m=loc n
  ·rw[e,hdA]at hg
   cases hg
  ·rw[hdB _ (G.rep.pl m hm).kE e]at hg
   rcases M.Oz m hm hg with⟨x,hx,e2⟩|h|h
   ·exact .inl ⟨x,hx,by rw[dQ x (M.st x hx).1];exact e2⟩
   ·exact .inr (.inl h)
   ·exact .inr (.inr (hZ _ e h))
 ·intro x hx
  obtain⟨h1,m,hm,e⟩:=M.st x hx
  exact⟨okR x h1,m,hm,by rw[dQ x h1];exact e⟩
 ·intro m hm h
  rw[hpar _ (G.rep.pl m hm).kE]
  exact h
 ·intro b hb
  obtain⟨c1,c2,c3,c4,c5,c6,c7,c8,c9⟩:=iW.at G.inv ha M1 hb
  exact⟨c1,c2,c6⟩
 ·exact(ZH.black n hn hgr hms hdA hdB rfl).one
theorem yY{s:af}(G:Good s cur az N hs K loc)(M:jA s cur az N hb K loc X Z)(hk: ∀n∈hb,n=0∨K n){n:Int}(hn:K n){Z':Int->Prop}(hZ: ∀a,a≠loc n->Z a->Z' a):Mk s (s.jJ (loc n)) cur az N hs hb K loc X Z':=by
 unfold af.jJ
 by_cases hg:(ag s.ws (loc n)).dh=true
 ·rw[if_pos hg]
  have A:=NY G M hk hn hZ hg
  have hpn:=G.rep.pn n hn
  have e:s.bQ (loc n)=(N n).ptrs.length:=by
   unfold af.bQ
   omega
  rw[e]
  obtain⟨B,C⟩:=Ll A.good A.rW hk hn (N n).ptrs.length (Nat.le_refl _)
  have D:=A.trans B
  refine⟨D.good,⟨D.rW.ph,D.rW.par,D.rW.hd, ?_,D.rW.gr,D.rW.Oz,D.rW.st,D.rW.rest⟩,D.same,D.bk,D.hz,D.ch⟩
  intro h m hm hx h1 h2 x hxm h0
  by_cases em:m=n
  ·subst em
   obtain⟨j,hj,rfl⟩:=List.getElem_of_mem hxm
   have e2:(N m).ptrs[j]=(N m).ptrs.getD j 0:=by rw[List.getD_eq_getElem?_getD,List.getElem?_eq_getElem hj];rfl
   rw[e2]at h0⊢
   have:=C (by rw[A.same.phase];rw[D.same.phase]at h;exact h) j hj h0
   rw[A.same.parity]at this
   rw[this,D.same.parity]
  ·exact D.rW.bl h m hm (fun q=>q.elim hx em) h1 h2 x hxm h0
 ·rw[if_neg hg]
  refine⟨G,M.weak M.hd (fun _ h=>h) (fun m hm hgm hz=>hZ _ (fun e=> ?_) hz), .refl s,fun _ _ h=>h,fun _ _=>⟨rfl,rfl,rfl⟩, .refl s⟩
  rw[e]at hgm
  exact hg hgm
theorem J6{s:af}(G:Good s cur az N hs K loc)(M:jA s cur az N hb K loc X Z)(hk: ∀n∈hb,n=0∨K n){a:Int}(ha:a∈cur∨a∈az){Z':Int->Prop}(hZ: ∀b,b≠a->Z b->Z' b):Mk s (s.gU a) cur az N hs hb K loc X Z':=by
 have hhome:s.now a=a->Home s cur az a:=by
  intro h
  rcases ha with h1|h1
  ·exact .inl h1
  ·rw[G.inv.lay.iw h1]at h
   exact .inr (.inr ⟨h1,h⟩)
 unfold af.gU af.wX
 by_cases h1:s.now a=a
 ·by_cases h2:(ag s.ws a).dh=true
  ·rw[if_pos (by simp[h1,h2])]
   obtain⟨_,n,hn,e⟩:=M.gr a (hhome h1) h2
   subst e
   exact yY G M hk hn hZ
  ·rw[if_neg (by simp[h2])]
   refine⟨G,M.weak M.hd (fun _ h=>h) (fun m hm hgm hz=>hZ _ (fun e=> ?_) hz), .refl s,fun _ _ h=>h,fun _ _=>⟨rfl,rfl,rfl⟩, .refl s⟩
   rw[e]at hgm
   exact h2 hgm
 ·rw[if_neg (by simp[h1])]
  refine⟨G,M.weak M.hd (fun _ h=>h) (fun m hm hgm hz=>hZ _ (fun e=> ?_) hz), .refl s,fun _ _ h=>h,fun _ _=>⟨rfl,rfl,rfl⟩, .refl s⟩
  have:=Ci G.inv (G.rep.pl m hm)
  rw[e]at this
  exact h1 this
theorem FM: ∀(l:List Int) {s:af} {Z:Int->Prop} {f t:Int} {k:Nat} (_:Good s cur az N hs K loc) (_:jA s cur az N hb K loc X Z) (_: ∀n∈hb,n=0∨K n) (_:ig s.ws f t l) (_: ∀a∈l,a∈cur∨a∈az) (_:t-f<=k),
  Mk s (s.oZ k f t) cur az N hs hb K loc X (fun a=>Z a/\a∉l)
 |[],s,Z,f,t,k,G,M,hk,ho,hl,ht=>by
  simp only[ig]at ho
  rw[(Ej (by omega) k).1]
  exact⟨G,M.weak M.hd (fun _ h=>h) (fun m hm hgm hz=>⟨hz,by simp⟩), .refl s,fun _ _ h=>h,fun _ _=>⟨rfl,rfl,rfl⟩, .refl s⟩
 |a::l,s,Z,f,t,k,G,M,hk,ho,hl,ht=>by
  obtain⟨rfl,ho2⟩:=ho
  have hw:=aA s.ws a
  have hle:=ho2.le
  cases k with
  |zero=>omega
  |succ k=>
   rw[af.oZ,if_pos (by omega)]
   have A:=J6 G M hk (hl a (List.mem_cons_self ..)) (Z':=fun b=>Z b/\b≠a) (fun b hb hz=>⟨hz,hb⟩)
   have hO: ∀b,b∈cur∨b∈az->gQ s cur az b:=fun b h=>h.elim .inl (fun h=> .inr (.inl h))
   have ho3:ig (s.gU a).ws (a+(ag s.ws a).words) t l:=ho2.frame fun b hb=>by
    have:=(A.hz b (hO b (hl b (List.mem_cons_of_mem _ hb)))).1
    unfold Hd.words
    rw[this]
   have B:=FM l A.good A.rW hk ho3 (fun b hb=>hl b (List.mem_cons_of_mem _ hb)) (k:=k) (by omega)
   have C:=A.trans B
   exact⟨C.good,C.rW.weak C.rW.hd (fun _ h=>h) (fun m hm hgm hz=>⟨hz.1.1,by simp only[List.mem_cons,not_or];exact⟨hz.1.2,hz.2⟩⟩),C.same,C.bk,C.hz,C.ch⟩
theorem Good.DC{s:af}(G:Good s cur az N hs K loc)(g:bZ)(look:Int):Good {s with g:=g,look:=look} cur az N hs K loc:=
 ⟨⟨⟨G.inv.lay.cf,G.inv.lay.ov,G.inv.lay.ob,G.inv.lay.ow,G.inv.lay.ol,G.inv.lay.f0,G.inv.lay.f1,G.inv.lay.yw,G.inv.lay.u0,G.inv.lay.u1,G.inv.lay.wl,G.inv.lay.rc,G.inv.lay.ro,G.inv.lay.fit⟩,⟨G.inv.hds.par,G.inv.hds.Dv,G.inv.hds.Fg,G.inv.hds.Dw,G.inv.hds.cp,G.inv.hds.rm,G.inv.hds.nm,G.inv.hds.sc,G.inv.hds.rl,G.inv.hds.ri⟩,
  ⟨G.inv.refs.rC,G.inv.refs.rO,G.inv.refs.rM,G.inv.refs.nt,G.inv.refs.tn⟩,G.inv.rem.same rfl rfl⟩,G.hdl,G.rep.other rfl rfl rfl rfl⟩
theorem Sm{s:af}(G:Good s cur az N hs K loc)(M:jA s cur az N hb K loc X Z)(hk: ∀n∈hb,n=0∨K n)(h1:s.phase=1):Good s.uT cur az N hs K loc/\jA s.uT cur az N hb K loc X (dG s.uT)/\mO s.jV s.uT/\Zt cur az K loc s.jV s.uT:=by
 have G0:Good s.jV cur az N hs K loc:=G.DC _ _
 have hz0: ∀a,Home s cur az a->dG s.jV a∨a∈cur∨a∈az:=by
  rintro a (h|h|h)
  ·exact .inr (.inl h)
  ·left
   obtain⟨z,hz⟩:=Option.isSome_iff_exists.1 h
   have:=rq G.inv.lay.ov hz
   refine⟨Int.le_refl _,h, ?_⟩
   show s.o.base+0*s.o.words<=a
   omega
  ·exact .inr (.inr h.1)
 have M0:jA s.jV cur az N hb K loc X (fun a=>dG s.jV a∨a∈cur∨a∈az):=
  ⟨M.ph,M.par,M.hd,M.bl,M.gr,fun n hn hg=> .inr (.inr (hz0 _ (G.rep.pl n hn))),M.st,fun h=>absurd h1 h⟩
 have ru:=G.inv.lay.rc.le
 have rv:=G.inv.lay.ro.le
 have A:=FM cur G0 M0 hk (f:=s.y.cf) (t:=s.y.cf+s.y.cu) G.inv.lay.rc (fun a h=> .inl h) (k:=s.y.cu.toNat) (by omega)
 have A':Mk s.jV s.ng cur az N hs hb K loc X _:=A
 have ho:ig s.ng.ws s.y.of (s.y.of+s.y.ou) az:=G.inv.lay.ro.frame fun b hb=>by
  have:=(A'.hz b (.inr (.inl hb))).1
  unfold Hd.words
  rw[this]
  rfl
 have B:=FM az A'.good A'.rW hk ho (fun a h=> .inr h) (k:=s.y.ou.toNat) (by omega)
 have B':Mk s.ng s.uT cur az N hs hb K loc X _:=B
 have C:=A'.trans B'
 refine⟨C.good,C.rW.weak C.rW.hd (fun _ h=>h) (fun m hm hgm hz=> ?_),C.same,C.ch⟩
 obtain⟨⟨hz1,hz2⟩,hz3⟩:=hz
 rcases hz1 with h|h|h
 ·exact ny C.same.look (by rw[C.same.o]) (by rw[C.same.o]) (fun h=>by rw[C.same.o];exact h) h
 ·exact absurd h hz2
 ·exact absurd h hz3
theorem Ii: ∀(l:List Int) {s:af} {Z:Int->Prop} (_:Good s cur az N hs K loc) (_:jA s cur az N hb K loc X Z) (_: ∀n∈hb,n=0∨K n) (_: ∀a∈l,(s.o.aH a).isSome=true),
  Mk s (nK l s) cur az N hs hb K loc X (fun a=>Z a/\a∉l)
 |[],s,Z,G,M,hk,hl=>⟨G,M.weak M.hd (fun _ h=>h) (fun m hm hgm hz=>⟨hz,by simp⟩), .refl s,fun _ _ h=>h,fun _ _=>⟨rfl,rfl,rfl⟩, .refl s⟩
 |a::l,s,Z,G,M,hk,hl=>by
  have A:Mk s (s.jC a) cur az N hs hb K loc X (fun b=>Z b/\b≠a):=by
   unfold af.jC
   by_cases h2:(ag s.ws a).dh=true
   ·rw[if_pos h2]
    obtain⟨_,n,hn,e⟩:=M.gr a (.inr (.inl (hl a (List.mem_cons_self ..)))) h2
    subst e
    exact yY G M hk hn (fun b hb hz=>⟨hz,hb⟩)
   ·rw[if_neg h2]
    refine⟨G,M.weak M.hd (fun _ h=>h) (fun m hm hgm hz=>⟨hz,fun e=> ?_⟩), .refl s,fun _ _ h=>h,fun _ _=>⟨rfl,rfl,rfl⟩, .refl s⟩
    rw[e]at hgm
    exact h2 hgm
  have B:=Ii l A.good A.rW hk (fun b hb=>by rw[A.same.o];exact hl b (List.mem_cons_of_mem _ hb))
  have C:=A.trans B
  exact⟨C.good,C.rW.weak C.rW.hd (fun _ h=>h) (fun m hm hgm hz=>⟨hz.1.1,by simp only[List.mem_cons,not_or];exact⟨hz.1.2,hz.2⟩⟩),C.same,C.bk,C.hz,C.ch⟩
theorem Sr{s:af}(G:Good s cur az N hs K loc)(M:jA s cur az N hb K loc X (dG s))(hk: ∀n∈hb,n=0∨K n)(h1:s.phase=1)(hl:0<=s.look):Good s.uV cur az N hs K loc/\jA s.uV cur az N hb K loc X (dG s.uV)/\mO s (nK s.dO s)/\Zt cur az K loc s (nK s.dO s):=by
 have hin: ∀a,a∈s.dO↔s.o.begin s.look.toNat<=a/\a<s.o.begin s.look.toNat+s.o.words/\ (s.o.aH a).isSome=true:=fun a=>nO G.inv.lay.ov
 have A:=Ii s.dO G M hk (fun a h=>((hin a).1 h).2.2)
 have hb:s.o.begin s.look.toNat=s.o.base+s.look*s.o.words:=by
  unfold aP.begin
  rw[Int.toNat_of_nonneg hl]
 refine⟨A.good.DC _ _, ?_,A.same,A.ch⟩
 have ez: ∀a,dG s a->a∉s.dO->dG s.uV a:=by
  intro a h h2
  have h3:s.o.base+(s.look+1)*s.o.words<=a:=by
   rw[Int.add_mul]
   by_cases hq:s.o.base+(s.look*s.o.words+1*s.o.words)<=a
   ·exact hq
   ·exact absurd ((hin a).2 ⟨by rw[hb];exact h.2.2,by rw[hb];omega,h.2.1⟩) h2
  obtain⟨z,hz⟩:=Option.isSome_iff_exists.1 h.2.1
  obtain⟨q1,q2,q3⟩:=rq G.inv.lay.ov hz
  have w16:=G.inv.lay.ov.w16
  have hnp: ¬s.C.pages<=s.look+1:=by
   intro hq
   rw[G.inv.lay.ol]at q3
   have:s.C.pages*s.o.words<=(s.look+1)*s.o.words:=Int.mul_le_mul_of_nonneg_right hq (by omega)
   omega
  have eo:s.uV.o=s.o:=A.same.o
  have el:s.uV.look=s.look+1:=by
   show(if(nK s.dO s).C.pages<=(nK s.dO s).look+1 then(-1:Int)else(nK s.dO s).look+1)=_
   rw[A.same.C,A.same.look,if_neg hnp]
  unfold dG
  rw[eo,el]
  exact⟨by omega,h.2.1,h3⟩
 have ph:(nK s.dO s).phase=1:=by rw[A.same.phase];exact h1
 exact⟨A.rW.ph,A.rW.par,A.rW.hd,A.rW.bl,A.rW.gr,fun n hn hg=>(A.rW.Oz n hn hg).imp id (Or.imp id (fun h=>ez _ h.1 h.2)),A.rW.st,fun h=>absurd ph h⟩
theorem pop_mk{s:af}(G:Good s cur az N hs K loc)(M:jA s cur az N hb K loc X (dG s))(hk: ∀n∈hb,n=0∨K n)(h1:s.phase=1)(hp:s.g.o_=true):Mk s.vT (s.vT.jJ (s.now s.g.j_)) cur az N hs hb K loc X (dG s):=by
 have hne:s.g.list≠[]:=by
  intro e
  unfold bZ.o_ at hp
  rw[e]at hp
  cases hp
 have hlast:s.g.j_=s.g.list.getLast hne:=by
  unfold bZ.j_
  rw[List.getLastD_eq_getLast?,List.getLast?_eq_some_getLast hne]
  rfl
 have hmem:s.g.j_∈s.g.list:=by rw[hlast];exact List.getLast_mem hne
 obtain⟨h2,n,hn,e⟩:=M.st _ hmem
 rw[e]
 have G0:Good s.vT cur az N hs K loc:=G.DC s.g.pop s.look
 have hsub: ∀x∈s.g.list.dropLast,x∈s.g.list:=fun x hx=>List.dropLast_subset _ hx
 have M0:jA s.vT cur az N hb K loc X (fun a=>dG s a∨a=loc n):=by
  refine⟨M.ph,M.par,M.hd,M.bl,M.gr, ?_,fun x hx=>M.st x (hsub x hx),fun h=>absurd h1 h⟩
  intro m hm hg
  rcases M.Oz m hm hg with⟨x,hx,e2⟩|h|h
  ·by_cases ex:x∈s.g.list.dropLast
   ·exact .inl ⟨x,ex,e2⟩
   ·have:x=s.g.j_:=by
     have h3:=List.dropLast_concat_getLast hne
     rw[<-h3]at hx
     rcases List.mem_append.1 hx with h4|h4
     ·exact absurd h4 ex
     ·rw[hlast];exact List.mem_singleton.1 h4
    right;right;right
    rw[<-e2,this,e]
  ·exact .inr (.inl h)
  ·exact .inr (.inr (.inl h))
 exact yY G0 M0 hk hn (fun a ha hz=>hz.resolve_right ha)
theorem Ij: ∀(l:List Int) (ns:List Int) {s:af} {hb:List Int} (_:Good s cur az N hs K loc) (_:jA s cur az N hb K loc X Z) (_: ∀n∈hb,n=0∨K n) (_:l.length=ns.length) (_: ∀j:Nat,j<l.length->s.now (l.getD j 0)=loc (ns.getD j 0)) (_: ∀x∈l,b_ s cur az x) (_: ∀n∈ns,n=0∨K n) (_:s.phase=1),
  Mk s (uj l s) cur az N hs (hb++ns) K loc X Z
 |[],ns,s,hb,G,M,hk,hl,hj,hO,hn,h1=>by
  have:ns=[]:=List.length_eq_zero_iff.1 hl.symm
  subst this
  rw[List.append_nil]
  exact .refl G M
 |a::l,[],s,hb,G,M,hk,hl,hj,hO,hn,h1=>by cases hl
 |a::l,n::ns,s,hb,G,M,hk,hl,hj,hO,hn,h1=>by
  have h0:=hj 0 (by simp)
  simp only[List.getD_cons_zero]at h0
  obtain⟨A,B⟩:=FK G M hk (hn n (List.mem_cons_self ..)) h0 (hO a (List.mem_cons_self ..))
  have dQ: ∀x,b_ s cur az x->(s.mark a).now x=s.now x:=fun x hx=>m_ G.inv.lay A.same.y (fun b hb=>(A.hz b (.inr (.inl hb))).2.2) hx
  have M2:jA (s.mark a) cur az N (hb++[n]) K loc X Z:=A.rW.weak (fun h m hm h0=>by
   rcases List.mem_append.1 hm with h2|h2
   ·exact A.rW.hd h m h2 h0
   ·rw[List.mem_singleton.1 h2]at h0⊢
    rw[A.same.parity]
    exact B h1 h0) (fun _ h=>h) (fun _ _ _ h=>h)
  have C:=Ij l ns A.good M2 (fun m hm=>(List.mem_append.1 hm).elim (hk m) (fun h=>by rw[List.mem_singleton.1 h];exact hn n (List.mem_cons_self ..))) (by simpa using hl) (fun j hjl=>by
   have:=hj (j+1) (by simpa using hjl)
   simp only[List.getD_cons_succ]at this
   rw[dQ _ (hO _ (List.mem_cons_of_mem _ (fE hjl)))]
   exact this) (fun x hx=>by
   have:=hO x (List.mem_cons_of_mem _ hx)
   unfold b_ bV at this⊢
   rw[A.same.C,A.same.wl]
   exact this) (fun m hm=>hn m (List.mem_cons_of_mem _ hm)) (by rw[A.same.phase];exact h1)
  rw[List.append_assoc]at C
  exact(A.trans C:Mk s (uj l (s.mark a)) cur az N hs (hb++([n]++ns)) K loc X Z)
end
end Go.Proofs.YtibemcgdmembeaaGreat
namespace Go.Proofs.YtibemcgdmembeaaGreat
open Go.RowKit
structure w_(o o':aP):Prop where
 v:o'.V
 base:o'.base=o.base
 ws:o'.words=o.words
 len:o'.pages.length=o.pages.length
 sub: ∀b z,o'.aH b=some z->o.aH b=some z
theorem w_.refl{o:aP}(v:o.V):w_ o o:=⟨v,rfl,rfl,rfl,fun _ _ h=>h⟩
theorem w_.trans{a b c:aP}(x:w_ a b)(y:w_ b c):w_ a c:=⟨y.v,y.base.trans x.base,y.ws.trans x.ws,y.len.trans x.len,fun p z h=>x.sub p z (y.sub p z h)⟩
theorem w_.some{a b:aP}(x:w_ a b){p:Int}(h:(b.aH p).isSome=true):(a.aH p).isSome=true:=by
 obtain⟨z,hz⟩:=Option.isSome_iff_exists.1 h
 rw[x.sub p z hz]
 rfl
theorem Qj{o:aP}(v:o.V)(a:Int):w_ o (o.give a):=by
 cases h:(o.aH a).isSome
 ·have:o.at a=none:=by
   unfold aP.aH at h
   rw[Option.isSome_map]at h
   simpa using h
  have e:o.give a=o:=by simp[aP.give,this,aP.BU]
  rw[e]
  exact .refl v
 ·have G:=yX v h
  refine⟨G.v,G.base,G.ws,G.len,fun b z hb=> ?_⟩
  by_cases e:b=a
  ·rw[e,G.gone]at hb;cases hb
  ·rw[G.rest b e]at hb;exact hb
def vH(s s':aP):Prop:=s'.base=s.base/\s'.words=s.words/\s'.pages.length=s.pages.length/\ ∀(n:Nat) (g:bC),s.pages[n]? =some g-> ∃x,s'.pages[n]? =some {g with pending:=x}
theorem vI{s s':aP}(h:vH s s'){n:Nat}{g':bC}(hg:s'.pages[n]? =some g'): ∃g x,s.pages[n]? =some g/\g'={g with pending:=x}:=by
 obtain⟨h1,h2,h3,h4⟩:=h
 have hn:n<s.pages.length:=by rw[<-h3];exact(List.getElem?_eq_some_iff.1 hg).1
 obtain⟨x,hx⟩:=h4 n _ (List.getElem?_eq_getElem hn)
 rw[hg]at hx
 exact⟨_,x,List.getElem?_eq_getElem hn,by injection hx⟩
theorem Lm{s s':aP}(h:vH s s')(v:s.V):s'.V:=by
 have h':=h
 obtain⟨h1,h2,h3,h4⟩:=h
 refine⟨by rw[h2];exact v.w16,by rw[h2];exact v.AU,by rw[h1];exact v.b0, ?_, ?_, ?_⟩
 ·intro n g' hg hk
  obtain⟨g,x,h5,rfl⟩:=vI h' hg
  rw[h2]
  exact v.blk n g h5 hk
 ·intro n g' hg hk
  obtain⟨g,x,h5,rfl⟩:=vI h' hg
  obtain⟨q1,q2,q3,q4⟩:=v.big n g h5 hk
  rw[h2,h3]
  refine⟨q1,q2,q3,fun k k1 k2=> ?_⟩
  obtain⟨g2,z1,z2⟩:=q4 k k1 k2
  obtain⟨y,hy⟩:=h4 _ _ z1
  exact⟨_,hy,z2⟩
 ·intro n g' hg hk
  obtain⟨g,x,h5,rfl⟩:=vI h' hg
  exact v.az n g h5 hk
theorem xe{s s':aP}(h:vH s s')(v:s.V)(a:Int):s'.aH a=s.aH a:=by
 have v':=Lm h v
 have h':=h
 obtain⟨h1,h2,h3,h4⟩:=h
 have hb: ∀n,s'.begin n=s.begin n:=fun n=>by unfold aP.begin;rw[h1,h2]
 have key: ∀z,s'.aH a=some z↔s.aH a=some z:=by
  intro z
  rw[cZ v',cZ v]
  constructor
  ·rintro⟨n,g',hg,hh⟩
   obtain⟨g,x,h5,rfl⟩:=vI h' hg
   refine⟨n,g,h5, ?_⟩
   rw[hb,h2]at hh
   exact hh
  ·rintro⟨n,g,hg,hh⟩
   obtain⟨x,hx⟩:=h4 n g hg
   refine⟨n,_,hx, ?_⟩
   rw[hb,h2]
   exact hh
 cases hq:s.aH a with
 |some z=>exact(key z).2 hq
 |none=>
  cases hr:s'.aH a with
  |none=>rfl
  |some z=>rw[(key z).1 hr]at hq;cases hq
theorem Cj(s:aP):vH s s.pend:=by
 refine⟨rfl,rfl,sZ ..,fun n g hg=>⟨decide (g.kind=1)||decide (g.kind=2), ?_⟩⟩
 rw[JU,List.getElem?_map,hg]
 rfl
theorem Cm(s:aP)(n:Nat):vH s (s.uS n):=by
 unfold aP.uS
 cases hq:s.pages[n]? with
 |none=>exact⟨rfl,rfl,rfl,fun m g hg=>⟨g.pending,hg⟩⟩
 |some g0=>
  refine⟨rfl,rfl,by show(s.pages.set n _).length=_;rw[List.length_set],fun m g hg=> ?_⟩
  by_cases e:n=m
  ·subst e
   rw[hq]at hg
   cases hg
   exact⟨false,by show(s.pages.set n _)[n]? =_;rw[List.getElem?_set_self (List.getElem?_eq_some_iff.1 hq).1]⟩
  ·exact⟨g.pending,by show(s.pages.set n _)[m]? =_;rw[List.getElem?_set_ne e];exact hg⟩
theorem Ew{s s':aP}(h:vH s s')(v:s.V):w_ s s':=⟨Lm h v,h.1,h.2.1,h.2.2.1,fun b z hb=>by rw[xe h v]at hb;exact hb⟩
section
variable{cur az:List Int}{N:Int->dB}{hs hb:List Int}{K:Int->Prop}{loc:Int->Int}{X Z:Int->Prop}
theorem Good.yl{s s':af}(G:Good s cur az N hs K loc)(S:w_ s.o s'.o)(e1:s'.C=s.C)(e2:s'.ws=s.ws)(e3:s'.y=s.y)(e4:s'.r=s.r)(e5:s'.t=s.t)(e6:s'.parity=s.parity)(e7:s'.aG=s.aG)(e8:s'.scan=s.scan)(e9:s'.copied=s.copied)(e10:s'.row=s.row)
  (hK: ∀n,K n->Home s cur az (loc n)->Home s' cur az (loc n)):Good s' cur az N hs K loc:=by
 obtain⟨⟨l,H,R,RO⟩,ht,rep⟩:=G
 have hC: ∀b,bV s' b↔bV s b:=fun b=>by unfold bV;rw[e1,e2]
 have dQ: ∀x,s'.now x=s.now x:=fun x=>by unfold af.now;rw[e3,e2]
 refine⟨⟨⟨by rw[e1];exact l.cf,S.v,by rw[S.base,e1];exact l.ob,by rw[S.ws,e1];exact l.ow,by rw[S.len,e1];exact l.ol,by rw[e3];exact l.f0,by rw[e3,e1];exact l.f1,by rw[e3,e1];exact l.yw,by rw[e3,e1];exact l.u0,by rw[e3,e1];exact l.u1,by rw[e2,e1];exact l.wl,by rw[e2,e3];exact l.rc,by rw[e2,e3];exact l.ro, ?_⟩,
  ⟨by rw[e6];exact H.par,by rw[e2];exact H.Dv, ?_, ?_,by rw[e9,e2];exact H.cp,by rw[e7,e3,e9];exact H.rm,by rw[e7];exact H.nm,by rw[e7,e3,e8];exact H.sc,by rw[e10,e9];exact H.rl,by rw[e10];exact H.ri⟩,
  ⟨?_, ?_, ?_, ?_,by rw[e7,e4];exact R.tn⟩,RO.same e4 e1⟩, ?_, ?_⟩
 ·intro a z hz
  rw[S.ws,e2]
  exact l.fit a z (S.sub a z hz)
 ·intro b hb
  rw[e2,hC]
  exact H.Fg b hb
 ·intro b hb
  rw[e2]
  exact H.Dw b (S.some hb)
 ·intro b hb k k0 k1
  rw[e2]at k1⊢
  unfold Dx
  rw[hC,e7,e8]
  exact R.rC b hb k k0 k1
 ·intro b hb k k0 k1
  rw[e2]at k1⊢
  unfold Dy
  rw[hC]
  exact R.rO b hb k k0 k1
 ·intro b hb k k0 k1
  rw[e2]at k1⊢
  unfold JD af.dW
  rw[hC,e2,e7,e10,e4]
  exact R.rM b (S.some hb) k k0 k1
 ·intro b hb hn
  rw[e2]at hn
  unfold af.jH af.dW
  rw[e4]
  exact R.nt b (S.some hb) hn
 ·intro x hx
  rw[e5]at hx
  have:=ht x hx
  unfold bT at this⊢
  rw[hC]
  exact this
 ·exact⟨rep.k0,rep.l0,rep.inj,fun n hn=>hK n hn (rep.pl n hn),by rw[e2];exact rep.sz,by rw[e2];exact rep.pn,rep.pk,fun n hn j hj=>by rw[dQ,e2];exact rep.pt n hn j hj,by rw[e2];exact rep.sc,by rw[e5];exact rep.hl,rep.hk,fun j hj=>by rw[dQ,e5];exact rep.hv j hj⟩
theorem Rep.less{s:af}{K':Int->Prop}(R:Rep s cur az N hs K loc)(hk: ∀n,K' n->K n)(hh: ∀x∈hs,x=0∨K' x)(hp: ∀n,K' n-> ∀m∈(N n).ptrs,m=0∨K' m):Rep s cur az N hs K' loc:=
 ⟨fun h=>R.k0 (hk _ h),R.l0,fun n m hn hm=>R.inj n m (hk n hn) (hk m hm),fun n hn=>R.pl n (hk n hn),fun n hn=>R.sz n (hk n hn),fun n hn=>R.pn n (hk n hn),hp,fun n hn=>R.pt n (hk n hn),fun n hn=>R.sc n (hk n hn),R.hl,hh,R.hv⟩
theorem NZ{s:af}(G:Good s cur az N hs K loc)(M:jA s cur az N hs K loc (fun _=>False) (dG s))(h1:s.phase=1)(hp:s.g.o_=false)(hl:s.look<0)(hlo:s.g.lost=false):
  Good s.tH cur az N hs (fun n=>K n/\ (ag s.ws (loc n)).parity=s.parity) loc/\jA s.tH cur az N hs (fun n=>K n/\ (ag s.ws (loc n)).parity=s.parity) loc (fun _=>False) (dG s.tH):=by
 have hgl:s.g.list=[]:=by
  unfold bZ.o_ at hp
  simpa using hp
 have YY: ∀n,K n->(ag s.ws (loc n)).dh=false:=by
  intro n hn
  cases hg:(ag s.ws (loc n)).dh
  ·rfl
  ·rcases M.Oz n hn hg with⟨x,hx,_⟩|h|h
   ·rw[hgl]at hx;cases hx
   ·rw[hlo]at h;cases h
   ·have:=h.1;omega
 have hh: ∀x∈hs,x=0∨(K x/\ (ag s.ws (loc x)).parity=s.parity):=by
  intro x hx
  by_cases e:x=0
  ·exact .inl e
  ·exact .inr ⟨(G.rep.hk x hx).resolve_left e,M.hd h1 x hx e⟩
 have hpt: ∀n,(K n/\ (ag s.ws (loc n)).parity=s.parity)-> ∀m∈(N n).ptrs,m=0∨(K m/\ (ag s.ws (loc m)).parity=s.parity):=by
  intro n hn m hm
  by_cases e:m=0
  ·exact .inl e
  ·exact .inr ⟨(G.rep.pk n hn.1 m hm).resolve_left e,M.bl h1 n hn.1 (fun h=>h) hn.2 (YY n hn.1) m hm e⟩
 have G1:Good s cur az N hs (fun n=>K n/\ (ag s.ws (loc n)).parity=s.parity) loc:=⟨G.inv,G.hdl,G.rep.less (fun n h=>h.1) hh hpt⟩
 have S:=Ew (Cj s.o) G.inv.lay.ov
 have hsz: ∀a,s.tH.o.aH a=s.o.aH a:=fun a=>xe (Cj s.o) G.inv.lay.ov a
 have home: ∀a,Home s.tH cur az a↔Home s cur az a:=fun a=>by unfold Home;rw[hsz];rfl
 have YZ: ∀a,Home s cur az a->(ag s.ws a).dh=true->False:=by
  intro a ha hg
  obtain⟨_,n,hn,e⟩:=M.gr a ha hg
  rw[<-e,YY n hn]at hg
  cases hg
 refine⟨G1.yl (s':=s.tH) S rfl rfl rfl rfl rfl rfl rfl rfl rfl rfl (fun n hn h=>(home _).2 h),⟨.inr (.inr rfl),fun _ n hn=>hn.2,fun h=>absurd (show(2:Int)=1 from h) (by decide),fun h=>absurd (show(2:Int)=1 from h) (by decide),fun a ha hg=>(YZ a ((home a).1 ha) hg).elim, ?_, ?_,fun _=>⟨hgl,hlo,hl⟩⟩⟩
 ·intro n hn hg
  have:(ag s.ws (loc n)).dh=true:=hg
  rw[YY n hn.1]at this
  cases this
 ·intro x hx
  have:x∈s.g.list:=hx
  rw[hgl]at this
  cases this
theorem Ik{s:af}(G:Good s cur az N hs K loc)(M:jA s cur az N hs K loc (fun _=>False) (dG s)):Good s.dF cur az N hs K loc/\jA s.dF cur az N hs K loc (fun _=>False) (dG s.dF)/\s.dF.aG=s.aG/\ (s.um=true->Zt cur az K loc s.gB s.dF):=by
 unfold af.dF
 by_cases ho:s.um=true
 ·rw[if_pos ho]
  have h0:s.phase=0:=by unfold af.um at ho;simpa using ho
  have hn1:s.phase≠1:=by omega
  obtain⟨r1,r2,r3⟩:=M.rest hn1
  have hpar:=G.inv.hds.par
  have G0:Good s.gB cur az N hs K loc:=by
   refine⟨G.inv.heads rfl rfl rfl rfl (by show 1-s.parity=0∨1-s.parity=1;omega) rfl rfl rfl rfl rfl (fun b hb=> ?_),G.hdl,G.rep.other rfl rfl rfl rfl⟩
   refine⟨?_,rfl,rfl,rfl,rfl,rfl,fun _ _ _=>rfl⟩
   rcases hb with hb|hb|hb
   ·exact(G.inv.hds.Dv b hb).1
   ·exact(G.inv.hds.Fg b hb).1
   ·exact(G.inv.hds.Dw b hb).1
  have hno: ∀a,Home s cur az a->(ag s.ws a).dh=true->False:=fun a ha hg=>hn1 (M.gr a ha hg).1
  have M0:jA s.gB cur az N [] K loc (fun _=>False) (dG s.gB):=by
   refine⟨.inr (.inl rfl),fun h=>absurd rfl h,fun _ n hn=>(by cases hn), ?_,fun a ha hg=>(hno a ha hg).elim,fun n hn hg=>(hno _ (G.rep.pl n hn) hg).elim,fun x hx=> ?_,fun h=>absurd rfl h⟩
   ·intro _ n hn _ hq _ m hm h2
    exfalso
    have h3:=M.par hn1 n hn
    have h4:(ag s.ws (loc n)).parity=1-s.parity:=hq
    omega
   ·have:x∈s.g.list:=hx
    rw[r1]at this
    cases this
  have hjj: ∀j:Nat,j<s.t.length->s.gB.now (s.t.getD j 0)=loc (hs.getD j 0):=fun j hj=>G.rep.hv j (by rw[G.rep.hl];exact hj)
  have A:=Ij (Z:=dG s.gB) s.t hs G0 M0 (fun n hn=>by cases hn) G.rep.hl.symm hjj G.hdl.ok G.rep.hk rfl
  rw[List.nil_append]at A
  refine⟨A.good,A.rW.weak A.rW.hd (fun _ h=>h) (fun n _ _ hz=>ny A.same.look (by rw[A.same.o]) (by rw[A.same.o]) (fun h=>by rw[A.same.o];exact h) hz),A.same.aG,fun _=>A.ch⟩
 ·rw[if_neg ho]
  exact⟨G,M,rfl,fun h=>absurd h ho⟩
theorem Il{s:af}(G:Good s cur az N hs K loc)(M:jA s cur az N hs K loc (fun _=>False) (dG s))(h2:s.phase=2)(a:Int):Good (s.dD a) cur az N hs K loc/\jA (s.dD a) cur az N hs K loc (fun _=>False) (dG (s.dD a)):=by
 unfold af.dD
 by_cases hq:(ag s.ws a).parity=s.parity
 ·rw[if_pos hq]
  exact⟨G,M⟩
 ·rw[if_neg hq]
  have hn1:s.phase≠1:=by omega
  obtain⟨r1,r2,r3⟩:=M.rest hn1
  have S:=Qj G.inv.lay.ov a
  have hne: ∀n,K n->loc n≠a:=fun n hn e=>hq (by rw[<-e];exact M.par hn1 n hn)
  have hst: ∀b,b≠a->(s.o.aH b).isSome=true->((s.o.give a).aH b).isSome=true:=by
   intro b hb h
   by_cases ha:(s.o.aH a).isSome=true
   ·rw[(yX G.inv.lay.ov ha).rest b hb]
    exact h
   ·have:s.o.at a=none:=by
     unfold aP.aH at ha
     rw[Option.isSome_map]at ha
     simpa using ha
    have e:s.o.give a=s.o:=by simp[aP.give,this,aP.BU]
    rw[e]
    exact h
  have hno: ∀b,Home {s with o:=s.o.give a} cur az b->(ag s.ws b).dh=true->False:=by
   intro b hb hg
   refine hn1 (M.gr b ?_ hg).1
   rcases hb with h|h|h
   ·exact .inl h
   ·exact .inr (.inl (S.some h))
   ·exact .inr (.inr h)
  refine⟨G.yl (s':={s with o:=s.o.give a}) S rfl rfl rfl rfl rfl rfl rfl rfl rfl rfl (fun n hn h=> ?_),⟨M.ph,M.par,M.hd,M.bl,fun b hb hg=>(hno b hb hg).elim, ?_, ?_,M.rest⟩⟩
  ·rcases h with h|h|h
   ·exact .inl h
   ·exact .inr (.inl (hst _ (hne n hn) h))
   ·exact .inr (.inr h)
  ·intro n hn hg
   exact absurd (M.gr _ (G.rep.pl n hn) hg).1 hn1
  ·intro x hx
   have:x∈s.g.list:=hx
   rw[r1]at this
   cases this
theorem Ey: ∀(l:List Int) {s:af} (_:Good s cur az N hs K loc) (_:jA s cur az N hs K loc (fun _=>False) (dG s)) (_:s.phase=2),Good (eH l s) cur az N hs K loc/\jA (eH l s) cur az N hs K loc (fun _=>False) (dG (eH l s))/\ (eH l s).phase=2/\ (eH l s).aG=s.aG
 |[],s,G,M,h2=>⟨G,M,h2,rfl⟩
 |a::l,s,G,M,h2=>by
  obtain⟨A,B⟩:=Il G M h2 a
  have e:(s.dD a).phase=2/\ (s.dD a).aG=s.aG:=by
   unfold af.dD
   split
   ·exact⟨h2,rfl⟩
   ·exact⟨h2,rfl⟩
  obtain⟨C,D,E,F⟩:=Ey l A B e.1
  exact⟨C,D,E,F.trans e.2⟩
theorem J7{s:af}(G:Good s cur az N hs K loc)(M:jA s cur az N hs K loc (fun _=>False) (dG s))(h2:s.phase=2)(n:Nat):Good (s.ni n) cur az N hs K loc/\jA (s.ni n) cur az N hs K loc (fun _=>False) (dG (s.ni n))/\ (s.ni n).phase=2/\ (s.ni n).aG=s.aG:=by
 obtain⟨A,B,C,D⟩:=Ey (s.dJ n) G M h2
 have S:=Ew (Cm (eH (s.dJ n) s).o n) A.inv.lay.ov
 have hsz: ∀a,(s.ni n).o.aH a=(eH (s.dJ n) s).o.aH a:=fun a=>xe (Cm _ n) A.inv.lay.ov a
 have home: ∀a,Home (s.ni n) cur az a↔Home (eH (s.dJ n) s) cur az a:=fun a=>by unfold Home;rw[hsz];rfl
 have hn1:(eH (s.dJ n) s).phase≠1:=by rw[C];decide
 refine⟨A.yl (s':=s.ni n) S rfl rfl rfl rfl rfl rfl rfl rfl rfl rfl (fun m hm h=>(home _).2 h),⟨B.ph,B.par,B.hd,B.bl,fun a ha hg=>B.gr a ((home a).1 ha) hg,fun m hm hg=>absurd (B.gr _ (A.rep.pl m hm) hg).1 hn1,B.st,B.rest⟩,C,D⟩
theorem Su{s:af}(G:Good s cur az N hs K loc)(M:jA s cur az N hs K loc (fun _=>False) (dG s))(h2:s.phase=2):Good s.BZ cur az N hs K loc/\jA s.BZ cur az N hs K loc (fun _=>False) (dG s.BZ):=by
 have hn1:s.phase≠1:=by omega
 refine⟨G.yl (s':=s.BZ) (.refl G.inv.lay.ov) rfl rfl rfl rfl rfl rfl rfl rfl rfl rfl (fun n hn h=>h),⟨.inl rfl,fun _=>M.par hn1,fun h=>absurd (show(0:Int)=1 from h) (by decide),fun h=>absurd (show(0:Int)=1 from h) (by decide),fun a ha hg=>absurd (M.gr a ha hg).1 hn1,fun n hn hg=>absurd (M.gr _ (G.rep.pl n hn) hg).1 hn1,fun x hx=> ?_,fun _=>M.rest hn1⟩⟩
 have:=(M.rest hn1).1
 have hx':x∈s.g.list:=hx
 rw[this]at hx'
 cases hx'
theorem J8{s:af}(G:Good s cur az N hs K loc)(M:jA s cur az N hs K loc (fun _=>False) (dG s)): ∃K':Int->Prop,(∀n,K' n->K n)/\Good s.fC cur az N hs K' loc/\jA s.fC cur az N hs K' loc (fun _=>False) (dG s.fC):=by
 unfold af.fC
 by_cases h0:s.phase=0
 ·rw[if_pos h0]
  exact⟨K,fun _ h=>h,G,M⟩
 ·rw[if_neg h0]
  by_cases h1:s.phase=1
  ·rw[if_pos h1]
   unfold af.wu
   by_cases hp:s.g.o_=true
   ·rw[if_pos hp]
    have A:=pop_mk G M G.rep.hk h1 hp
    exact⟨K,fun _ h=>h,A.good,A.rW.weak A.rW.hd (fun _ h=>h) (fun n _ _ hz=>ny A.same.look (by rw[A.same.o]) (by rw[A.same.o]) (fun h=>by rw[A.same.o];exact h) hz)⟩
   ·rw[if_neg hp]
    by_cases hl:0<=s.look
    ·rw[if_pos hl]
     obtain⟨A,B,_⟩:=Sr G M G.rep.hk h1 hl
     exact⟨K,fun _ h=>h,A,B⟩
    ·rw[if_neg hl]
     by_cases hlo:s.g.lost=true
     ·rw[if_pos hlo]
      obtain⟨A,B,_⟩:=Sm G M G.rep.hk h1
      exact⟨K,fun _ h=>h,A,B⟩
     ·rw[if_neg hlo]
      obtain⟨A,B⟩:=NZ G M h1 (by simpa using hp) (by omega) (by simpa using hlo)
      exact⟨_,fun _ h=>h.1,A,B⟩
  ·rw[if_neg h1]
   have h2:s.phase=2:=by have:=M.ph;omega
   unfold af.qQ
   cases hq:s.o.qA with
   |none=>
    obtain⟨A,B⟩:=Su G M h2
    exact⟨K,fun _ h=>h,A,B⟩
   |some n=>
    obtain⟨A,B,_⟩:=J7 G M h2 n
    exact⟨K,fun _ h=>h,A,B⟩
end
end Go.Proofs.YtibemcgdmembeaaGreat
namespace Go.Proofs.YtibemcgdmembeaaGreat
open Go.RowKit
abbrev Dc:Int->Prop:=fun _=>False
section
variable{s:af}{cur az:List Int}{N:Int->dB}{hs hb:List Int}{K:Int->Prop}{loc:Int->Int}{X Z:Int->Prop}
theorem jA.congrN(M:jA s cur az N hb K loc X Z){N':Int->dB}(h: ∀n,K n-> ¬X n->s.phase=1->(ag s.ws (loc n)).parity=s.parity-> ∀m∈(N' n).ptrs,m≠0->m∈(N n).ptrs∨(ag s.ws (loc m)).parity=s.parity):jA s cur az N' hb K loc X Z:=
 ⟨M.ph,M.par,M.hd,fun h1 n hn hx h2 h3 m hm h0=>(h n hn hx h1 h2 m hm h0).elim (fun h4=>M.bl h1 n hn hx h2 h3 m h4 h0) id,M.gr,M.Oz,M.st,M.rest⟩
theorem zK{E F:Int->Prop}(I:Inv s cur az E F){a k v:Int}(ha:gQ s cur az a)(k0:0<=k)(k1:k<(ag s.ws a).size): ∀b,gQ s cur az b->ag (iQ s.ws (place a k) v) b=ag s.ws b/\bH (iQ s.ws (place a k) v) b=bH s.ws b:=by
 intro b hb
 obtain⟨p1,p2,p3,p4⟩:=I.lay.pos ha
 obtain⟨b1,b2,b3,b4,b5⟩:=aA s.ws a
 obtain⟨q1,q2,q3,q4⟩:=I.lay.pos hb
 obtain⟨c1,c2,c3,c4,c5⟩:=aA s.ws b
 rw[oH (by omega) p3 (by omega) (by omega)]
 have hrd:=fun j=>vZ (ws:=s.ws) (i:=a+2+k) (by omega) (by omega) v j
 by_cases e:b=a
 ·subst e
  exact⟨by rw[dX,dX,hrd,if_neg (by omega)],by rw[f_ (by omega) q3,f_ (by omega) q3,hrd,if_neg (by omega)]⟩
 ·have:=I.lay.apart hb ha e
  exact⟨by rw[dX,dX,hrd,if_neg (by omega)],by rw[f_ (by omega) q3,f_ (by omega) q3,hrd,if_neg (by omega)]⟩
theorem N7(G:Good s cur az N hs K loc)(M:jA s cur az N hs K loc Dc (dG s))(i n v:Int):jA {s with ws:=s.writeW i n v} cur az (wV N hs i n v) hs K loc Dc (dG {s with ws:=s.writeW i n v}):=by
 have hN: ∀m,(wV N hs i n v m).ptrs=(N m).ptrs:=by
  intro m
  unfold wV
  split
  ·by_cases e:m=aB hs i
   ·rw[e,lu]
   ·rw[lC N _ e]
  ·rfl
 refine jA.congrN (N:=N) ?_ (fun m _ _ _ _ x hx _=> .inl (by rw[hN]at hx;exact hx))
 unfold af.writeW
 by_cases h:s.fP i=0/\s.kJ i n=true
 ·rw[if_pos h]
  have h2:=h.2
  rw[G.kJ h.1]at h2
  obtain⟨a0,a1,a2,a3⟩:=G.jU h.1 h2
  obtain⟨hk,hg,ho,e0,e1,e2⟩:=G.obj h.1
  have hn':=of_decide_eq_true h2
  have hsz:=G.rep.sz _ hk
  have hpn:=G.rep.pn _ hk
  rw[a0]
  have F:=zK (v:=v) G.inv (a:=loc (aB hs i)) (k:=(N (aB hs i)).ptrs.length+n) (G.rep.pl _ hk).kE (by omega) (by omega)
  exact M.frame (s':={s with ws:=iQ s.ws (place (loc (aB hs i)) ((N (aB hs i)).ptrs.length+n)) v}) G.inv G.rep rfl rfl rfl rfl rfl rfl (fun b=>rfl) (iC ..) (fun b hb=>by rw[(F b hb).1];exact⟨rfl,rfl⟩) (fun b hb=>(F b (.inr (.inl hb))).2) G.rep.hk
 ·rw[if_neg h]
  exact M
theorem FN(G:Good s cur az N hs K loc)(M:jA s cur az N hs K loc Dc (dG s))(t:List Int){i n:Int}(h:n=0∨(s.phase=1->(ag s.ws (loc n)).parity=s.parity)):jA {s with t:=t} cur az N (bP hs i n) K loc Dc (dG {s with t:=t}):=
 ⟨M.ph,M.par,fun h1 x hx h0=>by
  rcases sV hx with h2|h2
  ·exact M.hd h1 x h2 h0
  ·rw[h2]at h0⊢
   exact h.resolve_left h0 h1,M.bl,M.gr,M.Oz,M.st,M.rest⟩
theorem N8(G:Good s cur az N hs K loc)(M:jA s cur az N hs K loc Dc (dG s))(i:Int):jA {s with t:=bP s.t i 0} cur az N (bP hs i 0) K loc Dc (dG {s with t:=bP s.t i 0}):=FN G M _ (.inl rfl)
theorem Lp(M:jA s cur az N hs K loc Dc (dG s))(i:Int):aB hs i=0∨(s.phase=1->(ag s.ws (loc (aB hs i))).parity=s.parity):=by
 by_cases h0:aB hs i=0
 ·exact .inl h0
 ·refine .inr fun h1=>M.hd h1 _ ?_ h0
  by_cases h:bY hs i=true
  ·obtain⟨e2,l2⟩:=rU h
   rw[e2]
   exact fE l2
  ·exact absurd (pV (by simpa using h)) h0
theorem Qk(G:Good s cur az N hs K loc)(M:jA s cur az N hs K loc Dc (dG s))(i j:Int):jA {s with t:=s.tX i j} cur az N (Eg hs i j) K loc Dc (dG {s with t:=s.tX i j}):=by
 unfold af.tX Eg
 rw[G.ok]
 split
 ·exact FN G M _ (Lp M j)
 ·exact M
theorem Sv(G:Good s cur az N hs K loc)(M:jA s cur az N hs K loc Dc (dG s))(i n k:Int):jA (s.set i n k) cur az (DC N hs i n k) hs K loc Dc (dG (s.set i n k)):=by
 unfold af.set DC
 rw[<-G.jr]
 by_cases he:s.jr i n k=0
 ·rw[if_pos he,if_pos he]
  have he':=he
  rw[G.jr]at he'
  obtain⟨z1,z2,z3⟩:=nT.1 he'
  rw[<-G.fP]at z1
  obtain⟨hk,hg,ho,e0,e1,e2⟩:=G.obj z1
  obtain⟨c0,c1⟩:=of_decide_eq_true z3
  have hpn:(ag s.ws (aB s.t i)).ptrs=((N (aB hs i)).ptrs.length:Int):=by rw[<-e0];exact e2
  have hT:=G.new k
  have hI:gQ s cur az (aB s.t i):=ho.elim .inl (fun h=> .inr (.inr h))
  have hw:=aA s.ws (aB s.t i)
  have F:=zK (v:=u64 (aB s.t k)) G.inv hI c0 (show n<(ag s.ws (aB s.t i)).size by omega)
  have hg2:=G.get k
  have R1:=G.rep.put G.inv G.hdl.ok hk (G.node k) (by rw[<-hg];exact ho) (by rw[<-hg2];exact hT) c0 c1
  rw[<-hg,<-hg2]at R1
  have H1:iy (s.put i n k) cur:=by
   intro x hx
   have:=G.hdl x hx
   unfold bT bV at this⊢
   have e:(s.put i n k).ws.length=s.ws.length:=iC ..
   rw[e]
   exact this
  have M0:jA (s.put i n k) cur az N hs K loc Dc (dG s):=M.frame (s':=s.put i n k) G.inv G.rep rfl rfl rfl rfl rfl rfl (fun b=>rfl) (iC ..) (fun b hb=>by
   show(ag (iQ s.ws (place (aB s.t i) n) (u64 (aB s.t k))) b).parity=_/\ (ag (iQ s.ws (place (aB s.t i) n) (u64 (aB s.t k))) b).dh=_
   rw[(F b hb).1]
   exact⟨rfl,rfl⟩) (fun b hb=>(F b (.inr (.inl hb))).2) G.rep.hk
  have hhd: ∀m,(m=0∨K m)->m≠0->ag (s.put i n k).ws (loc m)=ag s.ws (loc m):=fun m hm h0=>(F _ (G.rep.pl m (hm.resolve_left h0)).kE).1
  have M1:jA (s.put i n k) cur az (qN N (aB hs i) ⟨(N (aB hs i)).ptrs.set n.toNat (aB hs k),(N (aB hs i)).iD⟩) hs K loc Dc (dG s):=by
   refine M0.congrN fun m hm _ h1 _ x hx h0=> ?_
   by_cases e:m=aB hs i
   ·rw[e,lu]at hx
    rw[e]
    rcases List.mem_or_eq_of_mem_set hx with h|h
    ·exact .inl h
    ·right
     rw[h]at h0⊢
     rw[hhd _ (G.node k) h0]
     exact((Lp M k).resolve_left h0) h1
   ·rw[lC N _ e]at hx
    exact .inl hx
  unfold af.xP
  by_cases hin:s.y.isIn (aB s.t k)=true
  ·rw[if_pos hin]
   have I2:Inv (s.put i n k) cur az (fun b=>b=aB s.t i) gq:=(kN (G.inv.weak (E':=fun b=>b=aB s.t i) (F':=gq) (fun b h=>h.elim) (fun b h=>h)) (ho.elim .inl (fun h=> .inr ⟨h,rfl⟩)) c0 (by rw[hpn];exact c1) hT).1
   rcases ho with hc|hold
   ·rw[pW I2 hc]
    exact M1
   ·have M2:=M1.note I2 R1 G.rep.hk hold
    obtain⟨m1,m2,m3,m4,m5,m6,m7,m8,m9,m10,m11,m12,m13⟩:=jm (s.put i n k) (aB s.t i)
    exact M2.weak M2.hd (fun _ h=>h) (fun m _ _ hz=>ny m12 (by rw[m7]) (by rw[m7]) (fun h=>by rw[m7];exact h) hz)
  ·rw[if_neg hin]
   exact M1
 ·rw[if_neg he,if_neg he]
  exact M
theorem Ql(G:Good s cur az N hs K loc)(M:jA s cur az N hs K loc Dc (dG s)){i p c:Int}(he:s.gI i p c=0){m:Int}(h0:m≠0)(hk: ¬K m):
  jA (s.made i p c) (cur++[s.y.di (p+c+2)]) az (qN N m (BI p c)) (bP hs i m) (fun n=>n=m∨K n) (fun n=>if n=m then s.y.di (p+c+2)else loc n) Dc (dG (s.made i p c)):=by
 obtain⟨G',hT,same,dQ,hnew,hC,hwl,ho⟩:=yc G he h0 hk
 generalize s.y.di (p+c+2)=t at*
 have hm: ∀n,K n->n≠m:=fun n hn e=>hk (e▸hn)
 have hl: ∀n,K n->(if n=m then t else loc n)=loc n:=fun n hn=>if_neg (hm n hn)
 have eph:(s.made i p c).phase=s.phase:=rfl
 have epa:(s.made i p c).parity=s.parity:=rfl
 have XI:(ag (s.made i p c).ws t).parity=s.parity/\ (ag (s.made i p c).ws t).dh=false:=by rw[hT];exact⟨rfl,rfl⟩
 have hK: ∀n,K n->ag (s.made i p c).ws (loc n)=ag s.ws (loc n):=fun n hn=>(same _ (G.rep.pl n hn).kE).1
 have home: ∀a,Home (s.made i p c) (cur++[t]) az a->a=t∨Home s cur az a:=by
  intro a ha
  rcases ha with h|h|h
  ·rcases List.mem_append.1 h with h|h
   ·exact .inr (.inl h)
   ·exact .inl (List.mem_singleton.1 h)
  ·rw[ho]at h
   exact .inr (.inr (.inl h))
  ·exact .inr (.inr (.inr ⟨h.1,by rw[<-(same a (.inr (.inl h.1))).2];exact h.2⟩))
 refine⟨M.ph, ?_, ?_, ?_, ?_, ?_, ?_,M.rest⟩
 ·intro h n hn
  show(ag (s.made i p c).ws (if n=m then t else loc n)).parity=s.parity
  by_cases e:n=m
  ·rw[if_pos e];exact XI.1
  ·rw[if_neg e,hK n (hn.resolve_left e)]
   exact M.par h n (hn.resolve_left e)
 ·intro h n hn hn0
  show(ag (s.made i p c).ws (if n=m then t else loc n)).parity=s.parity
  by_cases e:n=m
  ·rw[if_pos e];exact XI.1
  ·have h2:n∈hs:=(sV hn).resolve_right e
   rw[if_neg e,hK n ((G.rep.hk n h2).resolve_left hn0)]
   exact M.hd h n h2 hn0
 ·intro h n hn _ h1 h2 x hx hx0
  have h1':(ag (s.made i p c).ws (if n=m then t else loc n)).parity=s.parity:=h1
  have h2':(ag (s.made i p c).ws (if n=m then t else loc n)).dh=false:=h2
  show(ag (s.made i p c).ws (if x=m then t else loc x)).parity=s.parity
  by_cases e:n=m
  ·rw[e,lu]at hx
   exact absurd (List.eq_of_mem_replicate hx) hx0
  ·have hn':=hn.resolve_left e
   rw[lC N _ e]at hx
   rw[if_neg e,hK n hn']at h1' h2'
   have hx':=(G.rep.pk n hn' x hx).resolve_left hx0
   rw[hl x hx',hK x hx']
   exact M.bl h n hn' (fun h=>h) h1' h2' x hx hx0
 ·intro a ha hg
  rcases home a ha with rfl|h
  ·rw[XI.2]at hg
   cases hg
  ·rw[(same a h.kE).1]at hg
   obtain⟨h1,n,hn,e⟩:=M.gr a h hg
   exact⟨h1,n, .inr hn,by show(if n=m then t else loc n)=a;rw[hl n hn,e]⟩
 ·intro n hn hg
  have hg':(ag (s.made i p c).ws (if n=m then t else loc n)).dh=true:=hg
  show(∃x∈s.g.list,(s.made i p c).now x=(if n=m then t else loc n))∨s.g.lost=true∨dG (s.made i p c) (if n=m then t else loc n)
  by_cases e:n=m
  ·rw[if_pos e,XI.2]at hg'
   cases hg'
  ·have hn':=hn.resolve_left e
   rw[if_neg e,hK n hn']at hg'
   rw[if_neg e]
   rcases M.Oz n hn' hg' with⟨x,hx,e2⟩|h|h
   ·exact .inl ⟨x,hx,by rw[dQ x (M.st x hx).1];exact e2⟩
   ·exact .inr (.inl h)
   ·exact .inr (.inr (ny (s:=s) (s':=s.made i p c) rfl (by rw[ho]) (by rw[ho]) (fun h=>by rw[ho];exact h) h))
 ·intro x hx
  obtain⟨h1,n,hn,e⟩:=M.st x hx
  refine⟨?_,n, .inr hn,by show(s.made i p c).now x=(if n=m then t else loc n);rw[dQ x h1,hl n hn,e]⟩
  rcases h1 with h|h|h|h
  ·exact .inl h
  ·exact .inr (.inl (by unfold bV at h⊢;rw[hC,hwl];exact h))
  ·exact .inr (.inr (.inl (List.mem_append_left _ h)))
  ·exact .inr (.inr (.inr h))
theorem Sz(G:Good s cur az N hs K loc)(M:jA s cur az N hs K loc Dc (dG s)){r:Int}(hr:b_ s cur az r)(hsrc:Src s cur r):
  ∃cur' loc',Good (s.move r) cur' az N hs K loc'/\jA (s.move r) cur' az N hs K loc' Dc (dG (s.move r))/\v_ s cur az r (s.move r) cur' (s.dA r)/\ (s.move r).now r=s.dA r:=by
 cases hmv:s.aG with
 |false=>
  obtain⟨e1,e2⟩:=Eh G.inv hmv r
  have ho:=G.inv.hds.nm hmv
  have hn:bT s cur r:=by
   rcases hr with h|h|h|h
   ·exact .inl h
   ·exact .inr (.inl h)
   ·exact .inr (.inr h)
   ·rw[ho]at h;cases h
  refine⟨cur,loc,by rw[e1];exact G,by rw[e1];exact M, ?_, ?_⟩
  ·rw[e1,e2]
   exact⟨fun _ hb=>hb,hn,fun _ _ _ _ _=>rfl,rfl,rfl,rfl,rfl,rfl,rfl,rfl,rfl,fun _ _=>rfl,fun _ hb=>hb⟩
  ·rw[e1,e2]
   exact G.inv.lay.bM hn
 |true=>
  obtain⟨c1,l1,I1,MV,R1,h,C⟩:=BK G.inv hmv G.rep G.hdl.ok hr hsrc
  exact⟨c1,l1,⟨I1,iy.keep G.inv.lay I1.lay G.hdl MV.C MV.t MV.mono,R1⟩,C.rW G.rep.hk M,MV,h⟩
theorem Vt(G:Good s cur az N hs K loc)(M:jA s cur az N hs K loc Dc (dG s))(a b c:Int): ∃cur' loc',Good (s.vP a b c) cur' az N (NG N hs a b c) K loc'/\jA (s.vP a b c) cur' az N (NG N hs a b c) K loc' Dc (dG (s.vP a b c)):=by
 unfold af.vP NG
 rw[<-G.jr]
 by_cases he:s.jr b c a=0
 ·rw[if_pos he,if_pos he]
  have he':=he
  rw[G.jr]at he'
  obtain⟨z1,z2,z3⟩:=nT.1 he'
  rw[<-G.fP]at z1
  obtain⟨hk,hg,ho,e0,e1,e2⟩:=G.obj z1
  obtain⟨c0,c1⟩:=of_decide_eq_true z3
  have hI:gQ s cur az (aB s.t b):=ho.elim .inl (fun h=> .inr (.inr h))
  have hpn:(ag s.ws (aB s.t b)).ptrs=((N (aB hs b)).ptrs.length:Int):=by rw[<-e0];exact e2
  have hr:=G.inv.jF hI c0 (by rw[hpn];exact c1)
  have hsrc:Src s cur (aQ s.ws (aB s.t b) c):= .inr ⟨aB s.t b,c,ho,c0,by rw[hpn];exact c1,rfl⟩
  generalize hR:aQ s.ws (aB s.t b) c=r at*
  obtain⟨cur',loc',G1,M1,MV,dQ⟩:=Sz G M hr hsrc
  obtain⟨p1,p2,p3,p4⟩:=G.inv.lay.pos hI
  obtain⟨b1,b2,b3,b4,b5⟩:=aA s.ws (aB s.t b)
  have hmem:(N (aB hs b)).ptrs.getD c.toNat 0=0∨K ((N (aB hs b)).ptrs.getD c.toNat 0):=G.rep.pk _ hk _ (fE (by omega))
  have hloc:loc' ((N (aB hs b)).ptrs.getD c.toNat 0)=s.dA r:=by
   have h1:=G1.rep.pt _ hk c.toNat (by omega)
   rw[<-h1]
   have h2:loc' (aB hs b)=aB s.t b:=by
    have:=G1.get b
    rw[MV.t]at this
    exact this.symm
   have h3:aQ (s.move r).ws (aB s.t b) c=r:=by
    rw[(MV.same _ ho).ref (by omega) p3 c0 (by omega) (by omega),hR]
   rw[h2,show((c.toNat:Nat):Int)=c by omega,h3]
   exact dQ
  have hnv:(s.move r).now (s.dA r)=loc' ((N (aB hs b)).ptrs.getD c.toNat 0):=by rw[G1.inv.lay.bM MV.res,hloc]
  obtain⟨A,B⟩:=FK G1 M1 G1.rep.hk hmem hnv MV.res.qw
  have hN:bT (s.fetch r) cur' (s.dA r):=by
   have:=MV.res
   unfold bT bV at this⊢
   have e3:(s.fetch r).C=(s.move r).C:=A.same.C
   have e4:(s.fetch r).ws.length=(s.move r).ws.length:=A.same.wl
   rw[e3,e4]
   exact this
  have A':jA (s.fetch r) cur' az N hs K loc' Dc (dG (s.fetch r)):=A.rW.weak A.rW.hd (fun _ h=>h) (fun n _ _ hz=>ny A.same.look (by rw[A.same.o]) (by rw[A.same.o]) (fun h=>by rw[A.same.o];exact h) hz)
  refine⟨cur',loc',A.good.setH a (s.dA r) _ hmem hN hloc.symm,FN A.good A' _ ?_⟩
  by_cases h0:(N (aB hs b)).ptrs.getD c.toNat 0=0
  ·exact .inl h0
  ·refine .inr fun h1=> ?_
   have h2:(s.move r).phase=1:=by rw[<-A.same.phase];exact h1
   have:=B h2 h0
   show(ag (s.fetch r).ws _).parity=(s.fetch r).parity
   exact this.trans A.same.parity.symm
 ·rw[if_neg he,if_neg he]
  exact⟨cur,loc,G,M⟩
end
theorem SB{c:gX}(h:c.Fits):jA (gJ c) [] [] (fun _=>YL) (List.replicate c.handles.toNat 0) (fun _=>False) (fun _=>0) Dc (dG (gJ c)):=by
 have G:=He h
 have hno: ∀a,¬Home (gJ c) [] [] a:=by
  rintro a (h|h|h)
  ·cases h
  ·have:=zu (b:=1+2*c.aU) (k:=c.page) (by have:=G.inv.lay.nums;have e:(gJ c).C=c:=rfl;rw[e]at this;omega) (by have:=G.inv.lay.ov.w16;exact this) (by have:=G.inv.lay.ov.AU;exact this) c.pages.toNat a
   have e:(gJ c).o.aH a=none:=by first|exact this|(rw[<-this];rfl)
   rw[e]at h
   cases h
  ·cases h.1
 refine⟨.inl rfl,fun _ n hn=>hn.elim,fun h=>absurd (show(0:Int)=1 from h) (by decide),fun _ n hn=>hn.elim,fun a ha _=>absurd ha (hno a),fun n hn=>hn.elim,fun x hx=>(by cases hx),fun _=>⟨rfl,rfl,by show(-1:Int)<0;decide⟩⟩
end Go.Proofs.YtibemcgdmembeaaGreat
namespace Go.Proofs.YtibemcgdmembeaaGreat
open Go.RowKit
structure adi(o:aP)(n:Nat)(g:bC):Prop where
 kd:g.kind=0∨g.kind=1∨g.kind=2∨g.kind=3
 on:g.kind=1-> ∃k:Nat,g.used[k]? =some true
 ow:g.kind=3-> ∃(m:Nat) (g2:bC),m<n/\o.pages[m]? =some g2/\g2.kind=2/\ (n:Int)<m+dS o.words g2.size
def ZA(o:aP):Prop:= ∀(n:Nat) (g:bC),o.pages[n]? =some g->adi o n g
theorem abv: ∀{l:List Bool},noT l=false-> ∃k:Nat,l[k]? =some true
 |[],h=>by cases h
 |b::l,h=>by
  cases b
  ·obtain⟨k,hk⟩:=abv (l:=l) (by simpa[noT]using h)
   exact⟨k+1,by simpa using hk⟩
  ·exact⟨0,by simp⟩
theorem ZV{s:aP}(h:ZA s){n:Nat}{g0 g1:bC}(hg0:s.pages[n]? =some g0)(h0:g0.kind≠2)(h1:g1.kind=0∨g1.kind=1)(h2:g1.kind=1-> ∃k:Nat,g1.used[k]? =some true):ZA (s.bu n g1):=by
 have hn:n<s.pages.length:=(List.getElem?_eq_some_iff.1 hg0).1
 have hget: ∀m,(s.bu n g1).pages[m]? =if n=m then some g1 else s.pages[m]? :=fun m=>by
  show(s.pages.set n g1)[m]? =_
  rw[List.getElem?_set]
  by_cases e:n=m
  ·rw[if_pos e,if_pos e,if_pos hn]
  ·rw[if_neg e,if_neg e]
 intro m g hg
 rw[hget]at hg
 by_cases e:n=m
 ·rw[if_pos e]at hg
  cases hg
  exact⟨h1.elim .inl (fun h=> .inr (.inl h)),h2,fun h3=>by omega⟩
 ·rw[if_neg e]at hg
  obtain⟨a1,a2,a3⟩:=h m g hg
  refine⟨a1,a2,fun h3=> ?_⟩
  obtain⟨k,g2,b1,b2,b3,b4⟩:=a3 h3
  refine⟨k,g2,b1, ?_,b3,b4⟩
  rw[hget,if_neg]
  ·exact b2
  ·intro e2
   rw[<-e2,hg0]at b2
   cases b2
   exact h0 b3
theorem abI{s s':aP}(v:s.V)(P:ZA s){words t:Int}(h1:1<=words)(h2:words<=66)(h:s.take words=some (t,s')):ZA s':=by
 unfold aP.take at h
 split at h
 ·rename_i hL
  obtain⟨y1,y2,y3⟩:=fU h1 h2 v.w16
  obtain⟨c,hc⟩: ∃c:Nat,dS s.words words=c:=⟨(dS s.words words).toNat,by omega⟩
  rw[hc,Int.toNat_natCast]at h
  cases hq:nD c s.pages 0 0 with
  |none=>rw[hq]at h;cases h
  |some n=>
   rw[hq]at h
   simp only[aP.DZ,hc,Int.toNat_natCast,Option.some.injEq,Prod.mk.injEq]at h
   obtain⟨rfl,rfl⟩:=h
   obtain⟨q1,q2⟩:=D7 (by omega) hq
   have hget: ∀m,((iI s.pages n c).set n (kW words))[m]? =if m=n then some (kW words)else if n<=m/\m<n+c then some uH else s.pages[m]? :=by
    intro m
    rw[List.getElem?_set,zn _ _ _ _ q1,mG]
    by_cases e:n=m
    ·subst e
     rw[if_pos rfl,if_pos (by omega),if_pos rfl]
    ·rw[if_neg e,if_neg (show¬m=n from fun h=>e h.symm)]
   intro k g hg
   have hg:((iI s.pages n c).set n (kW words))[k]? =some g:=hg
   rw[hget]at hg
   split at hg
   ·cases hg
    exact⟨.inr (.inr (.inl rfl)),fun h=>absurd (show(2:Int)=1 from h) (by decide),fun h=>absurd (show(2:Int)=3 from h) (by decide)⟩
   ·split at hg
    ·rename_i e1 e2
     cases hg
     refine⟨.inr (.inr (.inr rfl)),fun h=>absurd (show(3:Int)=1 from h) (by decide),fun _=>⟨n,kW words,by omega, ?_,rfl, ?_⟩⟩
     ·show((iI s.pages n c).set n (kW words))[n]? =_
      rw[hget,if_pos rfl]
     ·show(k:Int)<n+dS s.words words
      omega
    ·obtain⟨a1,a2,a3⟩:=P k g hg
     refine⟨a1,a2,fun h3=> ?_⟩
     obtain⟨m,g2,b1,b2,b3,b4⟩:=a3 h3
     refine⟨m,g2,b1, ?_,b3,b4⟩
     show((iI s.pages n c).set n (kW words))[m]? =_
     have hno: ¬(n<=m/\m<n+c):=by
      intro hh
      obtain⟨g',e1,e2⟩:=q2 (m-n) (by omega)
      rw[show n+(m-n)=m by omega,b2]at e1
      cases e1
      omega
     rw[hget,if_neg (by omega),if_neg hno]
     exact b2
 ·rename_i hL
  unfold aP.inB aP.fitted at h
  split at h
  ·rename_i n k hq
   obtain⟨_,g,z1,z2,z3,z4,z5⟩:=AX hq
   simp only[Nat.sub_zero]at z1
   simp only[Option.some.injEq,Prod.mk.injEq]at h
   obtain⟨rfl,rfl⟩:=h
   unfold aP.KP
   rw[z1]
   refine ZV P z1 (by omega) (.inr z2) (fun _=>⟨k, ?_⟩)
   show(g.used.set k true)[k]? =_
   rw[List.getElem?_set,if_pos rfl,if_pos (wL z5).1]
  ·unfold aP.fresh at h
   split at h
   ·rename_i n hq
    simp only[Option.some.injEq,Prod.mk.injEq]at h
    obtain⟨rfl,rfl⟩:=h
    obtain⟨q1,q2⟩:=D7 (by omega) hq
    obtain⟨g,e1,e2⟩:=q2 0 (by omega)
    refine ZV P e1 (by omega) (.inr rfl) (fun _=>⟨0, ?_⟩)
    have hb:=sD words
    have hlb:wK words<=s.words:=by
     have hL2:qI s.words words=false:=by simpa using hL
     have h3:=of_decide_eq_false (show decide (s.words/2<wK words)=false from hL2)
     have:=v.w16
     omega
    have h4:1<=s.words/wK words:=by
     have:=Int.ediv_le_ediv (a:=wK words) (b:=s.words) (c:=wK words) (by omega) hlb
     rw[Int.ediv_self (by omega)]at this
     exact this
    show((List.replicate (s.words/wK words).toNat false).set 0 true)[0]? =_
    rw[List.getElem?_set,if_pos rfl,List.length_replicate,if_pos (by omega)]
   ·cases h
theorem abJ{s:aP}(v:s.V)(P:ZA s)(a:Int):ZA (s.give a):=by
 unfold aP.give
 cases hq:s.at a with
 |none=>exact P
 |some x=>
  obtain⟨m,k⟩:=x
  simp only[aP.BU]
  cases hg:s.pages[m]? with
  |none=>exact P
  |some g=>
   simp only
   unfold aP.tq
   by_cases h2:g.kind=2
   ·rw[if_pos h2]
    obtain⟨y1,y2,y3,y4⟩:=v.big m g hg h2
    have hc:=fU y1 y2 v.w16
    intro n g' hg'
    have hg':(kQ s.pages m (dS s.words g.size).toNat)[n]? =some g':=hg'
    rw[BQ]at hg'
    split at hg'
    ·cases hg'
     exact⟨.inl rfl,fun h=>absurd (show(0:Int)=1 from h) (by decide),fun h=>absurd (show(0:Int)=3 from h) (by decide)⟩
    ·rename_i hno
     have hnl:=(List.getElem?_eq_some_iff.1 hg').1
     obtain⟨a1,a2,a3⟩:=P n g' hg'
     refine⟨a1,a2,fun h3=> ?_⟩
     obtain⟨j,g2,b1,b2,b3,b4⟩:=a3 h3
     refine⟨j,g2,b1, ?_,b3,b4⟩
     show(kQ s.pages m (dS s.words g.size).toNat)[j]? =_
     rw[BQ,if_neg]
     ·exact b2
     ·rintro⟨c1,c2,c3⟩
      by_cases e:j=m
      ·rw[e,hg]at b2
       cases b2
       exact hno ⟨by omega,by omega,by omega⟩
      ·obtain⟨g3,d1,d2⟩:=y4 (j-m) (by omega) (by omega)
       rw[show m+(j-m)=j by omega,b2]at d1
       cases d1
       omega
   ·rw[if_neg h2]
    unfold aP.BR
    split
    ·exact ZV P hg h2 (.inl rfl) (fun h=>absurd (show(0:Int)=1 from h) (by decide))
    ·rename_i hn
     obtain⟨g',e1,e2⟩:=(sH v).1 hq
     rw[hg]at e1
     cases e1
     have k1:g.kind=1:=by
      rcases e2 with⟨h,_⟩|⟨h,_⟩
      ·exact absurd h h2
      ·exact h
     refine ZV P hg h2 (.inr k1) (fun _=>abv (by simpa using hn))
theorem aao{s s':aP}(h:vH s s')(P:ZA s):ZA s':=by
 obtain⟨h1,h2,h3,h4⟩:=h
 intro n g' hg'
 obtain⟨g,x,e1,rfl⟩:=vI ⟨h1,h2,h3,h4⟩ hg'
 obtain⟨a1,a2,a3⟩:=P n g e1
 refine⟨a1,a2,fun k3=> ?_⟩
 obtain⟨m,g2,b1,b2,b3,b4⟩:=a3 k3
 obtain⟨y,hy⟩:=h4 m g2 b2
 exact⟨m,_,b1,hy,b3,by rw[h2];exact b4⟩
theorem adk{s:aP}(v:s.V)(P:ZA s)(h: ∀a,s.aH a=none): ∀(n:Nat) (g:bC),s.pages[n]? =some g->g.kind=0:=by
 have h2: ∀(n:Nat) (g:bC),s.pages[n]? =some g->g.kind≠2:=by
  intro n g hg k
  have:=(cZ v (a:=s.begin n) (z:=dS s.words g.size*s.words)).2 ⟨n,g,hg, .inl ⟨k,rfl,rfl⟩⟩
  rw[h]at this
  cases this
 intro n g hg
 obtain⟨a1,a2,a3⟩:=P n g hg
 rcases a1 with k|k|k|k
 ·exact k
 ·obtain⟨j,hj⟩:=a2 k
  have:=(cZ v (a:=s.begin n+(j:Int)*g.size) (z:=g.size)).2 ⟨n,g,hg, .inr ⟨k,rfl,j,hj,rfl⟩⟩
  rw[h]at this
  cases this
 ·exact absurd k (h2 n g hg)
 ·obtain⟨m,g2,b1,b2,b3,b4⟩:=a3 k
  exact absurd b3 (h2 m g2 b2)
end Go.Proofs.YtibemcgdmembeaaGreat
namespace Go.Proofs.YtibemcgdmembeaaGreat
open Go.RowKit
def Z8(o:aP)(a:Int):Prop:= ∃(n:Nat) (g:bC),o.pages[n]? =some g/\ (g.kind=1∨g.kind=2)/\o.begin n<=a/\a<o.begin n+o.words/\g.pending=true
theorem abX{s s':aP}(v:s.V){words t:Int}(h1:1<=words)(h2:words<=66)(h:s.take words=some (t,s')):s'.base=s.base/\s'.words=s.words/\
  (∀(k:Nat) (g':bC),s'.pages[k]? =some g'->g'.pending=true->s.pages[k]? =some g')/\ (∀(k:Nat) (g:bC),s.pages[k]? =some g->g.kind≠0->g.pending=true->s'.pages[k]? =some g):=by
 have one: ∀(n:Nat) (g0 g1:bC),s.pages[n]? =some g0->(g0.kind=0∨g0.pending=false)->g1.pending=false->(∀(k:Nat) (g':bC),(s.pages.set n g1)[k]? =some g'->g'.pending=true->s.pages[k]? =some g')/\ (∀(k:Nat) (g:bC),s.pages[k]? =some g->g.kind≠0->g.pending=true->(s.pages.set n g1)[k]? =some g):=by
  intro n g0 g1 hg0 hk hp
  have hn:n<s.pages.length:=(List.getElem?_eq_some_iff.1 hg0).1
  refine⟨fun k g' hg hpn=> ?_,fun k g hg hk2 hpn=> ?_⟩
  ·rw[List.getElem?_set]at hg
   by_cases e:n=k
   ·rw[if_pos e,if_pos hn]at hg
    cases hg
    rw[hp]at hpn
    cases hpn
   ·rw[if_neg e]at hg
    exact hg
  ·rw[List.getElem?_set]
   by_cases e:n=k
   ·subst e
    rw[hg0]at hg
    cases hg
    rcases hk with h|h
    ·exact absurd h hk2
    ·rw[h]at hpn;cases hpn
   ·rw[if_neg e]
    exact hg
 unfold aP.take at h
 split at h
 ·rename_i hL
  obtain⟨y1,y2,y3⟩:=fU h1 h2 v.w16
  obtain⟨c,hc⟩: ∃c:Nat,dS s.words words=c:=⟨(dS s.words words).toNat,by omega⟩
  rw[hc,Int.toNat_natCast]at h
  cases hq:nD c s.pages 0 0 with
  |none=>rw[hq]at h;cases h
  |some n=>
   rw[hq]at h
   simp only[aP.DZ,hc,Int.toNat_natCast,Option.some.injEq,Prod.mk.injEq]at h
   obtain⟨rfl,rfl⟩:=h
   obtain⟨q1,q2⟩:=D7 (by omega) hq
   have hget: ∀m,((iI s.pages n c).set n (kW words))[m]? =if m=n then some (kW words)else if n<=m/\m<n+c then some uH else s.pages[m]? :=by
    intro m
    rw[List.getElem?_set,zn _ _ _ _ q1,mG]
    by_cases e:n=m
    ·subst e
     rw[if_pos rfl,if_pos (by omega),if_pos rfl]
    ·rw[if_neg e,if_neg (show¬m=n from fun h=>e h.symm)]
   refine⟨rfl,rfl,fun k g' hg hp=> ?_,fun k g hg hk hp=> ?_⟩
   ·have hg:((iI s.pages n c).set n (kW words))[k]? =some g':=hg
    rw[hget]at hg
    split at hg
    ·cases hg;cases hp
    ·split at hg
     ·cases hg;cases hp
     ·exact hg
   ·show((iI s.pages n c).set n (kW words))[k]? =some g
    have hno: ¬(n<=k/\k<n+c):=by
     intro hh
     obtain⟨g',e1,e2⟩:=q2 (k-n) (by omega)
     rw[show n+(k-n)=k by omega,hg]at e1
     cases e1
     exact hk e2
    rw[hget,if_neg (by omega),if_neg hno]
    exact hg
 ·unfold aP.inB aP.fitted at h
  split at h
  ·rename_i n k hq
   obtain⟨_,g,z1,z2,z3,z4,z5⟩:=AX hq
   simp only[Nat.sub_zero]at z1
   simp only[Option.some.injEq,Prod.mk.injEq]at h
   obtain⟨rfl,rfl⟩:=h
   unfold aP.KP
   rw[z1]
   obtain⟨a1,a2⟩:=one n g (g.use k true) z1 (.inr z4) z4
   exact⟨rfl,rfl,a1,a2⟩
  ·unfold aP.fresh at h
   split at h
   ·rename_i n hq
    simp only[Option.some.injEq,Prod.mk.injEq]at h
    obtain⟨rfl,rfl⟩:=h
    obtain⟨q1,q2⟩:=D7 (by omega) hq
    obtain⟨g,e1,e2⟩:=q2 0 (by omega)
    obtain⟨a1,a2⟩:=one n g (iH (wK words) s.words) e1 (.inl e2) rfl
    exact⟨rfl,rfl,a1,a2⟩
   ·cases h
theorem aaW{s:aP}(v:s.V){m n:Nat}{a:Int}(h1:s.begin m<=a)(h2:a<s.begin m+s.words)(h3:s.begin n<=a)(h4:a<s.begin n+s.words):m=n:=by
 rcases Nat.lt_trichotomy m n with h|h|h
 ·have:=je v h;omega
 ·exact h
 ·have:=je v h;omega
theorem aa7{s:aP}(v:s.V){a:Int}(h:(s.aH a).isSome=true): ∃(n:Nat) (g:bC),s.pages[n]? =some g/\ (g.kind=1∨g.kind=2)/\s.begin n<=a/\a<s.begin n+s.words:=by
 have w16:=v.w16
 obtain⟨z,hz⟩:=Option.isSome_iff_exists.1 h
 obtain⟨n,g,hg,hh⟩:=(cZ v).1 hz
 rcases hh with⟨k,e,_⟩|⟨k,_,j,hj,e⟩
 ·exact⟨n,g,hg, .inr k,by omega,by omega⟩
 ·obtain⟨z1,z2,z3,z4⟩:=v.blk n g hg k
  have hkl:j<g.used.length:=(List.getElem?_eq_some_iff.1 hj).1
  obtain⟨c1,c2⟩:=qj (z:=g.size) (w:=s.words) (k:=j) (by omega) (by omega) (by omega)
  exact⟨n,g,hg, .inl k,by omega,by omega⟩
structure Zx(s:af):Prop where
 np:s.phase≠2-> ∀a,¬Z8 s.o a
 par:s.phase≠1-> ∀a,(s.o.aH a).isSome=true-> ¬Z8 s.o a->(ag s.ws a).parity=s.parity
 pg:ZA s.o
theorem Zx.frame{s s':af}(P:Zx s)(ep:s'.phase=s.phase)(er:s'.parity=s.parity)(eo:s'.o=s.o)(hh: ∀a,(s.o.aH a).isSome=true->(ag s'.ws a).parity=(ag s.ws a).parity):Zx s':=
 ⟨by rw[ep,eo];exact P.np,by rw[ep,eo,er];exact fun h a ha hn=>(hh a ha).trans (P.par h a ha hn),by rw[eo];exact P.pg⟩
section
variable{cur az:List Int}{N:Int->dB}{hs hb:List Int}{K:Int->Prop}{loc:Int->Int}{X Z:Int->Prop}
theorem abw{s:af}{E F:Int->Prop}(I:Inv s cur az E F){a:Int}(ha:(s.o.aH a).isSome=true): ∀b,gQ s cur az b->(ag (s.note a).ws b).parity=(ag s.ws b).parity:=by
 intro b hb
 unfold af.note
 split
 ·have hg:({ag s.ws a with aY:=true}:Hd).Good:=dU (oU s.ws a)
  have S:=(KY I.lay I.hds ha hg rfl (show({ag s.ws a with aY:=true}:Hd).old=true from(I.hds.Dw a ha).2.1)).1
  show(ag (iQ s.ws a _) b).parity=_
  rw[S.hd b hb]
  split
  ·rename_i e
   rw[e]
  ·rfl
 ·rfl
theorem NH.aaF{s s':af}{cur':List Int}{loc':Int->Int}(m:NH az N hs K s cur loc s' cur' loc')(P:Zx s):Zx s':=by
 cases m with
 | @mv a _ M ha hw hsrc MT hmono hT=>
  obtain⟨hmv,R,ht,E,F,I⟩:=M
  obtain⟨o1,o2,o3,o4,o5,o6,o7,o8,o9,RP,KX⟩:=kM s a
  have wb:=aA s.ws a
  have sm: ∀b,(s.o.aH b).isSome=true->ag (s.moved a).ws b=ag s.ws b:=by
   intro b hb
   have hba:b≠a:=by
    intro e
    have h2:=I.lay.gz ha
    rw[<-e,I.lay.fK (.inr hb)]at h2
    cases h2
   have:=aA s.ws b
   exact(MT.rest b (.inr (.inr hb)) hba).head (by omega)
  have eo:(s.moved a).o=(s.placed (ag s.ws a).words (s.oW a)).o:=rfl
  unfold af.placed at eo
  cases hq:s.lW (ag s.ws a).words (s.oW a)with
  |none=>
   rw[hq]at eo
   exact P.frame o6 o5 eo (fun b hb=>by rw[sm b hb])
  |some x=>
   obtain⟨t,o'⟩:=x
   rw[hq]at eo
   simp only at eo
   have htk:s.o.take (ag s.ws a).words=some (t,o'):=by
    unfold af.lW at hq
    split at hq
    ·exact hq
    ·cases hq
   have hto:s.kD a=t:=by
    unfold af.kD af.lX
    rw[hq]
   obtain⟨p1,p2,p3,p4⟩:=abX I.lay.ov (by omega) (by omega) htk
   have hb0: ∀n,o'.begin n=s.o.begin n:=fun n=>by unfold aP.begin;rw[p1,p2]
   refine⟨?_, ?_,by rw[eo];exact abI I.lay.ov P.pg (by omega) (by omega) htk⟩
   ·rw[o6,eo]
    rintro h b ⟨n,g,g1,g2,g3,g4,g5⟩
    rw[hb0]at g3 g4
    rw[p2]at g4
    exact P.np h b ⟨n,g,p3 n g g1 g5,g2,g3,g4,g5⟩
   ·rw[o6,o5]
    intro h b hb hn
    by_cases e:b=s.kD a
    ·rw[e,MT.JC]
     unfold af.sO
     rw[if_neg h]
    ·rw[MT.size b (.inl e)]at hb
     rw[sm b hb]
     refine P.par h b hb ?_
     rintro⟨n,g,g1,g2,g3,g4,g5⟩
     refine hn ?_
     rw[eo]
     exact⟨n,g,p4 n g g1 (by omega) g5,g2,by rw[hb0];exact g3,by rw[hb0,p2];exact g4,g5⟩
 | @ref a k T' MD ha k0 k1 hT hn=>
  obtain⟨hmv,R,ht,E,F,I⟩:=MD
  obtain⟨I2,r1,r2,r3,r4,r5⟩:=kN (E:=fun b=>E b∨b=a) (F:=F) (I.weak (fun b h=> .inl h) (fun b h=>h)) (ha.elim .inl (fun h=> .inr ⟨h, .inr rfl⟩)) k0 k1 hT
  refine P.frame rfl rfl rfl (fun b hb=> ?_)
  show(ag (iQ s.ws (place a k) (u64 T')) b).parity=_
  by_cases e:b=a
  ·rw[e,r3]
  ·have:=aA s.ws b
   rw[(r2 b (.inr (.inr hb)) e).head (by omega)]
 | @note a MD ha=>
  obtain⟨hmv,R,ht,E,F,I⟩:=MD
  obtain⟨m1,m2,m3,m4,m5,m6,m7,_⟩:=jm s a
  exact P.frame m4 m3 m7 (fun b hb=>abw I ha b (.inr (.inr hb)))
 | @dL a MD ha=>
  obtain⟨hmv,R,ht,E,F,I⟩:=MD
  obtain⟨I1,u1,u2,u3,u4,u5,u6⟩:=sS (E':=fun b=>E b∨b=a) (F':=F) I ha (fun b h=> .inl h) (.inr rfl) (fun _ _ h=>h)
  refine P.frame rfl rfl rfl (fun b hb=> ?_)
  by_cases e:b=a
  ·rw[e,u1]
  ·rw[u2 b (.inr (.inr hb)) e]
 |other MD h1 h2 h3 h4 h5 h6 h7 h8 h9 h10 h11 h12=>exact P.frame h8 h7 h4 (fun b hb=>by rw[h2])
 |hdl MD h1 h2=>exact P.frame rfl rfl rfl (fun b hb=>rfl)
theorem lK.aaF{s s':af}{cur':List Int}{loc':Int->Int}(m:lK az N hs K s cur loc s' cur' loc')(P:Zx s):Zx s':=lK.keep (P:=fun s _ _=>Zx s) (fun x h=>x.aaF h) m P
theorem abY{s s':aP}{a:Int}(v:s.V)(G:Given s s' a){b:Int}(hb:(s'.aH b).isSome=true):Z8 s b->Z8 s' b:=by
 rintro⟨n,g,g1,g2,g3,g4,g5⟩
 obtain⟨m,g',k1,k2,k3,k4⟩:=aa7 G.v hb
 have e0: ∀n,s'.begin n=s.begin n:=fun n=>by unfold aP.begin;rw[G.base,G.ws]
 rw[e0]at k3 k4
 rw[G.ws]at k4
 have e:=aaW v k3 k4 g3 g4
 subst e
 obtain⟨g'',q1,q2,q3,q4⟩:=G.pend m g' k1 k2
 rw[g1]at q1
 cases q1
 exact⟨m,g',k1,k2,by rw[e0];exact k3,by rw[e0,G.ws];exact k4,by rw[<-q2];exact g5⟩
theorem aa8{s:af}(v:s.o.V)(P:Zx s)(h2:s.phase=2)(a:Int):Zx (s.dD a)/\ (s.dD a).o.V/\ (s.dD a).phase=2/\ (s.dD a).ws=s.ws/\ (s.dD a).parity=s.parity/\ (∀b,((s.dD a).o.aH b).isSome=true->(s.o.aH b).isSome=true/\ (b=a->(ag s.ws a).parity=s.parity))/\ (s.dD a).o.base=s.o.base/\ (s.dD a).o.words=s.o.words:=by
 unfold af.dD
 split
 ·rename_i h
  exact⟨P,v,h2,rfl,rfl,fun b hb=>⟨hb,fun _=>h⟩,rfl,rfl⟩
 ·rename_i h
  cases hz:(s.o.aH a).isSome with
  |false=>
   have e:s.o.give a=s.o:=by
    unfold aP.give
    unfold aP.aH at hz
    rw[Option.isSome_map]at hz
    cases hq:s.o.at a with
    |none=>rfl
    |some x=>rw[hq]at hz;cases hz
   rw[e]
   exact⟨P,v,h2,rfl,rfl,fun b hb=>⟨hb,fun e2=>by subst e2;rw[hz]at hb;cases hb⟩,rfl,rfl⟩
  |true=>
   have G:=yX v hz
   refine⟨⟨fun h=>absurd h2 h,fun h1 b hb hn=> ?_,abJ v P.pg a⟩,G.v,h2,rfl,rfl,fun b hb=> ?_,G.base,G.ws⟩
   ·have hba:b≠a:=by
     intro e
     have hb:((s.o.give a).aH b).isSome=true:=hb
     rw[e,G.gone]at hb
     cases hb
    have hb':(s.o.aH b).isSome=true:=by rw[<-G.rest b hba];exact hb
    exact P.par h1 b hb' (fun q=>hn (abY v G hb q))
   ·have hba:b≠a:=by
     intro e
     have hb:((s.o.give a).aH b).isSome=true:=hb
     rw[e,G.gone]at hb
     cases hb
    exact⟨by rw[<-G.rest b hba];exact hb,fun e=>absurd e hba⟩
theorem aaG: ∀(l:List Int) {s:af} (_:s.o.V) (_:Zx s) (_:s.phase=2),Zx (eH l s)/\ (eH l s).o.V/\ (eH l s).phase=2/\ (eH l s).ws=s.ws/\ (eH l s).parity=s.parity/\ (∀b,((eH l s).o.aH b).isSome=true->(s.o.aH b).isSome=true/\ (b∈l->(ag s.ws b).parity=s.parity))/\ (eH l s).o.base=s.o.base/\ (eH l s).o.words=s.o.words
 |[],s,v,P,h2=>⟨P,v,h2,rfl,rfl,fun b hb=>⟨hb,fun h=>by cases h⟩,rfl,rfl⟩
 |a::l,s,v,P,h2=>by
  obtain⟨a1,a2,a3,a4,a5,a6,a7,a8⟩:=aa8 v P h2 a
  obtain⟨b1,b2,b3,b4,b5,b6,b7,b8⟩:=aaG l a2 a1 a3
  refine⟨b1,b2,b3,b4.trans a4,b5.trans a5,fun b hb=> ?_,b7.trans a7,b8.trans a8⟩
  obtain⟨c1,c2⟩:=b6 b hb
  obtain⟨d1,d2⟩:=a6 b c1
  refine⟨d1,fun h=> ?_⟩
  rcases List.mem_cons.1 h with h|h
  ·rw[h];exact d2 h
  ·have:=c2 h
   rw[a4,a5]at this
   exact this
theorem abx{s:af}(v:s.o.V)(P:Zx s)(h2:s.phase=2)(n:Nat):Zx (s.ni n):=by
 obtain⟨b1,b2,b3,b4,b5,b6,b7,b8⟩:=aaG (s.dJ n) v P h2
 have F:=Cm (eH (s.dJ n) s).o n
 have sz: ∀a,(s.ni n).o.aH a=(eH (s.dJ n) s).o.aH a:=xe F b2
 refine⟨fun h=>absurd b3 h,fun h1 a ha hn=> ?_,aao F b1.pg⟩
 rw[sz]at ha
 show(ag (eH (s.dJ n) s).ws a).parity=(eH (s.dJ n) s).parity
 by_cases hp:Z8 (eH (s.dJ n) s).o a
 ·obtain⟨m,g,g1,g2,g3,g4,g5⟩:=hp
  have e1: ∀k,(s.ni n).o.begin k=(eH (s.dJ n) s).o.begin k:=fun k=>by
   have h1:(s.ni n).o.base=_:=F.1
   have h2:(s.ni n).o.words=_:=F.2.1
   unfold aP.begin
   rw[h1,h2]
  have e2:(s.ni n).o.words=(eH (s.dJ n) s).o.words:=F.2.1
  by_cases e:m=n
  ·subst e
   have hin:a∈s.dJ m:=by
    have q: ∀k,(eH (s.dJ m) s).o.begin k=s.o.begin k:=fun k=>by unfold aP.begin;rw[b7,b8]
    rw[q]at g3 g4
    rw[b8]at g4
    exact(nO v).2 ⟨g3,g4,(b6 a ha).1⟩
   rw[b4,b5]
   exact(b6 a ha).2 hin
  ·exfalso
   refine hn ⟨m,g, ?_,g2,by rw[e1];exact g3,by rw[e1,e2];exact g4,g5⟩
   show((eH (s.dJ n) s).o.uS n).pages[m]? =some g
   unfold aP.uS
   split
   ·show((eH (s.dJ n) s).o.pages.set n _)[m]? =some g
    rw[List.getElem?_set,if_neg (fun h=>e h.symm)]
    exact g1
   ·exact g1
 ·exact b1.par h1 a ha hp
theorem acS{o:aP}(v:o.V){a:Int}(ha:(o.aH a).isSome=true):Z8 o.pend a:=by
 obtain⟨n,g,g1,g2,g3,g4⟩:=aa7 v ha
 have hn:=(List.getElem?_eq_some_iff.1 g1).1
 refine⟨n,g.Fv, ?_,g2,g3,g4, ?_⟩
 ·show(jw o.pages o.pages.length)[n]? =some g.Fv
  rw[BO _ _ (Nat.le_refl _),List.take_length,List.drop_length,List.append_nil,List.getElem?_map,g1]
  rfl
 ·unfold bC.Fv
  rcases g2 with h|h<;>simp[h]
theorem abK{o:aP}(h:o.qA=none)(a:Int): ¬Z8 o a:=by
 rintro⟨n,g,g1,g2,g3,g4,g5⟩
 unfold aP.qA at h
 have:=(zB h).1 n
 rw[List.getD_eq_getElem?_getD,List.getElem?_map,g1]at this
 rw[show g.pending=false from this]at g5
 cases g5
theorem mO.aaF{s s':af}(S:mO s s')(h1:s.phase=1)(P:Zx s):Zx s':=
 ⟨by rw[S.phase,S.o];exact P.np,fun h=>absurd (S.phase.trans h1) h,by rw[S.o];exact P.pg⟩
theorem aby{s:af}(v:s.o.V)(M:s.phase=0∨s.phase=1∨s.phase=2)(P:Zx s):Zx s.fC:=by
 unfold af.fC
 split
 ·exact P
 ·split
  ·rename_i h1
   unfold af.wu
   split
   ·exact(uU s.vT (s.now s.g.j_)).aaF h1 ⟨P.np,P.par,P.pg⟩
   ·split
    ·have A:=(wZ s.dO s).aaF h1 P
     exact⟨A.np,A.par,A.pg⟩
    ·split
     ·have A:mO s.jV s.uT:=(tC _ _ _ _).trans (tC _ _ _ _)
      exact A.aaF h1 ⟨P.np,P.par,P.pg⟩
     ·refine⟨fun h=>absurd rfl h,fun _ a ha hn=>absurd (acS v (a:=a) ?_) hn,aao (Cj s.o) P.pg⟩
      have e:s.tH.o.aH a=s.o.aH a:=xe (Cj s.o) v a
      rw[<-e]
      exact ha
  ·rename_i h0 h1
   have h2:s.phase=2:=by omega
   unfold af.qQ
   split
   ·exact abx v P h2 _
   ·rename_i hq
    exact⟨fun _=>abK hq,fun _ a ha hn=>P.par h1 a ha hn,P.pg⟩
theorem aa9{s:af}(P:Zx s):Zx s.dF:=by
 unfold af.dF
 split
 ·rename_i h
  have h0:s.phase=0:=of_decide_eq_true h
  exact(B_ s.t s.gB).aaF rfl ⟨fun _=>P.np (by omega),fun h=>absurd rfl h,P.pg⟩
 ·exact P
theorem acT{c:gX}(h:c.Fits):Zx (gJ c):=by
 have hp: ∀(n:Nat) (g:bC),(gJ c).o.pages[n]? =some g->g.kind=0:=by
  intro n g hg
  have:=List.mem_of_getElem? hg
  have e:=List.eq_of_mem_replicate this
  rw[e]
  rfl
 refine⟨fun _ a ⟨n,g,g1,g2,_⟩=>by have:=hp n g g1;omega,fun _ a ha _=> ?_,fun n g hg=>⟨.inl (hp n g hg),fun h=>by have:=hp n g hg;omega,fun h=>by have:=hp n g hg;omega⟩⟩
 obtain⟨n,g,g1,g2,_⟩:=aa7 (RY h).lay.ov ha
 have:=hp n g g1
 omega
theorem acC{s:af}(P:Zx s)(i:Int):Zx (s.mark i):=by
 by_cases h1:s.phase=1
 ·exact(nR s i).aaF h1 P
 ·have:s.mark i=s:=by
   unfold af.mark af.qL
   rw[if_neg (by simp[h1])]
  rw[this]
  exact P
theorem acD{s:af}(G:Good s cur az N hs K loc)(P:Zx s){r:Int}(hr:b_ s cur az r)(hsrc:Src s cur r):Zx (s.move r):=by
 cases hmv:s.aG with
 |false=>
  rw[(Eh G.inv hmv r).1]
  exact P
 |true=>
  obtain⟨c1,l1,I1,MV,R1,h,C⟩:=BK G.inv hmv G.rep G.hdl.ok hr hsrc
  exact C.aaF P
theorem acU{s:af}(G:Good s cur az N hs K loc)(P:Zx s)(a b c:Int):Zx (s.vP a b c):=by
 unfold af.vP
 split
 ·rename_i he
  rw[G.jr]at he
  obtain⟨z1,z2,z3⟩:=nT.1 he
  rw[<-G.fP]at z1
  obtain⟨hk,hg,ho,e0,e1,e2⟩:=G.obj z1
  obtain⟨c0,c1⟩:=of_decide_eq_true z3
  have hI:gQ s cur az (aB s.t b):=ho.elim .inl (fun h=> .inr (.inr h))
  have hpn:(ag s.ws (aB s.t b)).ptrs=((N (aB hs b)).ptrs.length:Int):=by rw[<-e0];exact e2
  have hr:=G.inv.jF hI c0 (by rw[hpn];exact c1)
  have A:=acC (acD G P hr (.inr ⟨aB s.t b,c,ho,c0,by rw[hpn];exact c1,rfl⟩)) (s.dA (aQ s.ws (aB s.t b) c))
  exact A.frame rfl rfl rfl (fun b hb=>rfl)
 ·exact P
theorem abZ{s:af}(G:Good s cur az N hs K loc)(P:Zx s)(i n v:Int):Zx {s with ws:=s.writeW i n v}:=by
 unfold af.writeW
 by_cases h:s.fP i=0/\s.kJ i n=true
 ·rw[if_pos h]
  have h2:=h.2
  rw[G.kJ h.1]at h2
  obtain⟨a0,a1,a2,a3⟩:=G.jU h.1 h2
  obtain⟨hk,hg,ho,e0,e1,e2⟩:=G.obj h.1
  have hn':=of_decide_eq_true h2
  have hsz:=G.rep.sz _ hk
  have hpn:=G.rep.pn _ hk
  rw[a0]
  have F:=zK (v:=v) G.inv (a:=loc (aB hs i)) (k:=(N (aB hs i)).ptrs.length+n) (G.rep.pl _ hk).kE (by omega) (by omega)
  exact P.frame rfl rfl rfl (fun b hb=>by
   show(ag (iQ s.ws (place (loc (aB hs i)) ((N (aB hs i)).ptrs.length+n)) v) b).parity=_
   rw[(F b (.inr (.inr hb))).1])
 ·rw[if_neg h]
  exact P
theorem acV{s:af}(G:Good s cur az N hs K loc)(P:Zx s)(i n k:Int):Zx (s.set i n k):=by
 unfold af.set
 by_cases he:s.jr i n k=0
 ·rw[if_pos he]
  have he':=he
  rw[G.jr]at he'
  obtain⟨z1,z2,z3⟩:=nT.1 he'
  rw[<-G.fP]at z1
  obtain⟨hk,hg,ho,e0,e1,e2⟩:=G.obj z1
  obtain⟨c0,c1⟩:=of_decide_eq_true z3
  have hpn:(ag s.ws (aB s.t i)).ptrs=((N (aB hs i)).ptrs.length:Int):=by rw[<-e0];exact e2
  have hI:gQ s cur az (aB s.t i):=ho.elim .inl (fun h=> .inr (.inr h))
  have hw:=aA s.ws (aB s.t i)
  have F:=zK (v:=u64 (aB s.t k)) G.inv hI c0 (show n<(ag s.ws (aB s.t i)).size by omega)
  have P1:Zx (s.put i n k):=P.frame rfl rfl rfl (fun b hb=>by
   show(ag (iQ s.ws (place (aB s.t i) n) (u64 (aB s.t k))) b).parity=_
   rw[(F b (.inr (.inr hb))).1])
  have I2:Inv (s.put i n k) cur az (fun b=>b=aB s.t i) gq:=(kN (G.inv.weak (E':=fun b=>b=aB s.t i) (F':=gq) (fun b h=>h.elim) (fun b h=>h)) (ho.elim .inl (fun h=> .inr ⟨h,rfl⟩)) c0 (by rw[hpn];exact c1) (G.new k)).1
  unfold af.xP
  split
  ·rcases ho with hc|hold
   ·rw[pW I2 hc]
    exact P1
   ·obtain⟨m1,m2,m3,m4,m5,m6,m7,_⟩:=jm (s.put i n k) (aB s.t i)
    exact P1.frame m4 m3 m7 (fun b hb=>abw I2 hold b (.inr (.inr hb)))
  ·exact P1
 ·rw[if_neg he]
  exact P
end
theorem abL(s:af)(i:Int):(s.mark i).g.most=s.g.most:=(nR s i).most
theorem aa_(s:af):s.fC.g.most=s.g.most:=by
 unfold af.fC
 split
 ·rfl
 ·split
  ·unfold af.wu
   split
   ·exact(uU s.vT (s.now s.g.j_)).most
   ·split
    ·exact(wZ s.dO s).most
    ·split
     ·have A:mO s.jV s.uT:=(tC _ _ _ _).trans (tC _ _ _ _)
      exact A.most
     ·rfl
  ·unfold af.qQ
   split
   ·rename_i n _
    have key: ∀(l:List Int) (s:af),(eH l s).g=s.g:=by
     intro l
     induction l with
     |nil=>intro s;rfl
     |cons a l ih=>
      intro s
      refine(ih (s.dD a)).trans ?_
      unfold af.dD
      split<;>rfl
    show(eH (s.dJ n) s).g.most=_
    rw[key]
   ·rfl
theorem aaR(s:af):s.dF.g.most=s.g.most:=by
 unfold af.dF
 split
 ·exact(B_ s.t s.gB).most
 ·rfl
theorem ab1(s:af)(r:Int):(s.move r).g=s.g:=by
 unfold af.move
 split
 ·rfl
 ·split
  ·exact(kM s r).2.2.1
  ·rfl
theorem acE(s:af)(a b c:Int):(s.vP a b c).g.most=s.g.most:=by
 unfold af.vP
 split
 ·show(s.fetch _).g.most=_
  unfold af.fetch
  rw[abL,ab1]
 ·rfl
theorem adt(s:af)(i n k:Int):(s.set i n k).g=s.g:=by
 unfold af.set
 split
 ·unfold af.xP
  split
  ·exact(jm (s.put i n k) (aB s.t i)).2.2.2.2.2.2.2.2.2.1
  ·rfl
 ·rfl
end Go.Proofs.YtibemcgdmembeaaGreat
namespace Go.Proofs.YtibemcgdmembeaaGreat
open Go.RowKit
def af.FO(s:af):Prop:= ∃cur az N hs K loc,∃m:Int,Good s cur az N hs K loc/\0<m/\ ∀n,K n->n<m
theorem af.FO.make{s:af}(Z:s.FO)(i p c:Int):(s.make i p c).FO:=by
 obtain⟨cur,az,N,hs,K,loc,m,G,h0,hm⟩:=Z
 unfold af.make
 split
 ·rename_i he
  obtain⟨l1,G1⟩:=abW G he (m:=m) (by omega) (fun h=>by have:=hm m h;omega)
  refine⟨_,_,_,_,_,l1,m+1,G1,by omega, ?_⟩
  rintro n (rfl|h)
  ·omega
  ·have:=hm n h;omega
 ·exact⟨cur,az,N,hs,K,loc,m,G,h0,hm⟩
theorem af.FO.set{s:af}(Z:s.FO)(i n k:Int):(s.set i n k).FO:=by
 obtain⟨cur,az,N,hs,K,loc,m,G,h0,hm⟩:=Z
 exact⟨_,_,_,_,_,_,m,P9 G i n k,h0,hm⟩
theorem af.FO.clear{s:af}(Z:s.FO)(i:Int):({s with t:=bP s.t i 0}:af).FO:=by
 obtain⟨cur,az,N,hs,K,loc,m,G,h0,hm⟩:=Z
 exact⟨_,_,_,_,_,_,m,JM G i,h0,hm⟩
theorem af.FO.eG{s:af}(Z:s.FO):s.eG.FO:=by
 obtain⟨cur,az,N,hs,K,loc,m,G,h0,hm⟩:=Z
 obtain⟨c1,o1,K1,l1,G1,hk⟩:=good_step G
 exact⟨_,_,_,_,_,l1,m,G1,h0,fun n h=>hm n (hk n h)⟩
theorem af.FO.eY{s:af}(Z:s.FO):s.eY.FO:=by
 obtain⟨cur,az,N,hs,K,loc,m,G,h0,hm⟩:=Z
 obtain⟨c1,o1,l1,G1⟩:=good_start G
 exact⟨_,_,_,_,_,l1,m,G1,h0,hm⟩
theorem af.FO.inv{s:af}(Z:s.FO): ∃cur az,Inv s cur az gq gq/\iy s cur:=by
 obtain⟨cur,az,N,hs,K,loc,m,G,h0,hm⟩:=Z
 exact⟨cur,az,G.inv,G.hdl⟩
theorem af.FO.adl{s:af}(Z:s.FO):s.E_:=by
 obtain⟨cur,az,I,_⟩:=Z.inv
 exact(PW I).1
theorem af.FO.WV{s:af}(Z:s.FO):s.Py:=by
 obtain⟨cur,az,I,H⟩:=Z.inv
 exact(Ee I H).1
theorem af.FO.copied{s:af}(Z:s.FO):0<=s.copied/\s.copied<=4096/\ (s.parity=0∨s.parity=1)/\s.C.Fits:=by
 obtain⟨cur,az,I,_⟩:=Z.inv
 obtain⟨n1,n2,n3,n4,n5,n6,n7,n8,n9,n10⟩:=I.lay.nums
 have h1:=rP I.lay.ro
 have h2:=I.hds.cp
 exact⟨by omega,by omega,I.hds.par,I.lay.cf⟩
theorem CB(pc:Nat)(L:aX){s:af}(Z:s.FO)(i p c:Int)(w:World)(h:Hp)(hi:In w h)(hc:ah pc L s h):
  Calls Tryz.prog 41 #[ptr pc, .int .i64 i, .int .i64 p, .int .i64 c] w fun e w'=>e= .returned (.int .i64 (s.gI i p c))/\ ∃h',ah pc L (s.make i p c) h'/\aj h h' w w':=by
 obtain⟨c1,c2,c3,c4⟩:=Z.copied
 exact MW pc L s i p c w h hi hc c4.l1 c4.l2 c1 (by omega) c3
theorem DF(pc:Nat)(L:aX){s:af}(Z:s.FO)(a b c:Int)(w:World)(h:Hp)(hi:In w h)(hc:ah pc L s h):
  Calls Tryz.prog 49 #[ptr pc, .int .i64 a, .int .i64 b, .int .i64 c] w fun e w'=>e= .returned (.int .i64 (s.jr b c a))/\ ∃h',ah pc L (s.vP a b c) h'/\aj h h' w w':=by
 by_cases he:s.jr b c a=0
 ·obtain⟨cur,az,N,hs,K,loc,m,G,h0,hm⟩:=Z
  have e1:s.vP a b c={s.fetch (aQ s.ws (aB s.t b) c)with t:=bP (s.fetch (aQ s.ws (aB s.t b) c)).t a (s.dA (aQ s.ws (aB s.t b) c))}:=by unfold af.vP;rw[if_pos he]
  have he':=he
  rw[G.jr]at he'
  obtain⟨z1,z2,z3⟩:=nT.1 he'
  rw[<-G.fP]at z1
  obtain⟨hk,hg,ho,e0,e2,e3⟩:=G.obj z1
  obtain⟨c0,c1⟩:=of_decide_eq_true z3
  have hI:gQ s cur az (aB s.t b):=ho.elim .inl (fun h=> .inr (.inr h))
  have hpn:(ag s.ws (aB s.t b)).ptrs=((N (aB hs b)).ptrs.length:Int):=by rw[<-e0];exact e3
  have hr:=G.inv.jF hI c0 (by rw[hpn];exact c1)
  have VK:I64 (aQ s.ws (aB s.t b) c):=I64.wrap _
  obtain⟨c2,l2,G2,M,_⟩:=NF G hr
  have Y0:I64 (s.dA (aQ s.ws (aB s.t b) c)):=by
   rcases M.res with h|h|h
   ·rw[h];exact I64.small (by decide) (by decide)
   ·obtain⟨n1,n2,n3,n4,n5,_⟩:=G2.inv.lay.nums
    have h1:=h.1
    have h2:=h.2
    exact⟨by omega,by omega⟩
   ·obtain⟨p1,p2,p3,p4⟩:=G2.inv.lay.pos (.inl h)
    exact⟨by omega,by omega⟩
  have hto:s.y.dI (aQ s.ws (aB s.t b) c)=true->s.now (aQ s.ws (aB s.t b) c)=aQ s.ws (aB s.t b) c->I64 (s.kD (aQ s.ws (aB s.t b) c)):=by
   intro f1 f2
   have h0: ¬(aQ s.ws (aB s.t b) c=0∨s.y.dI (aQ s.ws (aB s.t b) c)=false):=by
    rintro(h|h)
    ·rcases hr with h'|h'|h'|h'
     ·rw[h',G.inv.lay.jl (.inr rfl)]at f1;cases f1
     ·rw[G.inv.lay.jl (.inl h')]at f1;cases f1
     ·rw[G.inv.lay.fK (.inl h')]at f1;cases f1
     ·exact G.inv.lay.not_zero (.inr (.inl h')) h
    ·rw[h]at f1;cases f1
   have:s.dA (aQ s.ws (aB s.t b) c)=s.kD (aQ s.ws (aB s.t b) c):=by rw[af.dA,if_neg h0,if_pos f2]
   rw[<-this]
   exact Y0
  have KR: ∀W h,In W h->ah pc L s h->Calls Tryz.prog 100 #[ptr pc, .int .i64 (aQ s.ws (aB s.t b) c)] W fun e w'=>e= .returned (.int .i64 (s.dA (aQ s.ws (aB s.t b) c)))/\ ∃h',ah pc L (s.move (aQ s.ws (aB s.t b) c)) h'/\aj h h' W w':=
   fun W h hi hc=>yN pc L s _ W h hi hc VK G.inv.mv hto
  have DU: ∀W h,In W h->ah pc L (s.move (aQ s.ws (aB s.t b) c)) h->Calls Tryz.prog 101 #[ptr pc, .int .i64 (s.dA (aQ s.ws (aB s.t b) c))] W fun e w'=>e= .returned (.tuple #[])/\ ∃h',ah pc L (s.fetch (aQ s.ws (aB s.t b) c)) h'/\aj h h' W w':=
   fun W h hi hc=>yK pc L _ _ W h hi hc Y0 G2.inv.hds.par
  have key:=Pj pc L s _ _ _ a b c he w h hi hc Y0 KR DU
  have ht:(s.fetch (aQ s.ws (aB s.t b) c)).t=s.t:=by
   have e4:(s.fetch (aQ s.ws (aB s.t b) c)).t=(s.move (aQ s.ws (aB s.t b) c)).t:=by
    unfold af.fetch af.mark
    split<;>rfl
   rw[e4,M.t]
  have e5:bI (s.fetch (aQ s.ws (aB s.t b) c)).t a=0:=by
   rw[ht]
   exact Nu (by rw[G.ok];exact z2)
  rw[e5]at key
  rw[e1,he]
  exact key
 ·have e2:s.vP a b c=s:=by simp[af.vP,he]
  rw[e2]
  exact Jf pc L s a b c he w h hi hc
def af.Zl(s:af):Nat->af
 |0=>s
 |k+1=>(s.Zl k).eG
theorem af.FO.Zl{s:af}(Z:s.FO): ∀k,(s.Zl k).FO
 |0=>Z
 |k+1=>(Z.Zl k).eG
theorem aaH{words card:Int}(h0:0<=words)(h1:1<=card):bz.many words card<=words+1:=by
 unfold bz.many
 have h2:words/card<=words:=Int.ediv_le_self card h0
 omega
theorem af.FO.run{s:af}(Z:s.FO)(work:Int): ∃s' d',s.vO 40000 0 work=some (s',d')/\s.GM 40000 0 work:=by
 obtain⟨cur,az,I,_⟩:=Z.inv
 obtain⟨n1,n2,n3,n4,n5,n6,n7,n8,n9,n10⟩:=I.lay.nums
 have hb:s.aG=true->s.todo+2<=40000:=by
  intro hmv
  have h1:=(Zu I hmv).2
  have h2:=I.rem.tc.2.2.2
  have h3:=aaH (words:=s.C.pages*s.C.page) (card:=s.C.card) (by omega) I.lay.cf.c1
  have h4:=I.rem.bm.2.2.2
  have h5:=I.lay.cf.b2
  omega
 obtain⟨s',d',h⟩:=abu 40000 I 0 work hb (by omega)
 exact⟨s',d',h,acB 40000 I 0 work (fun hmv=>by have:=hb hmv;omega) (fun _=>by omega)⟩
end Go.Proofs.YtibemcgdmembeaaGreat
namespace Go.Proofs.YtibemcgdmembeaaGreat
open Go.RowKit
structure dM(s:af)(c:gX)(N:Int->dB)(hs:List Int)(m:Int):Prop where
 ex: ∃cur az K loc,Good s cur az N hs K loc/\jA s cur az N hs K loc Dc (dG s)/\ ∀n,K n->0<n/\n<m
 m0:0<m
 cf:s.C=c
 lk:s.look<=64
 gl:(s.g.list.length:Int)<=s.g.most
 adC:s.g.most=c.stack
 od:Zx s
 tl:(s.t.length:Int)=c.handles
theorem NH.others{az:List Int}{N:Int->dB}{hs:List Int}{K:Int->Prop}{s s':af}{cur cur':List Int}{loc loc':Int->Int}(m:NH az N hs K s cur loc s' cur' loc'):s'.C=s.C/\s'.g=s.g/\s'.look=s.look/\s'.phase=s.phase/\s'.parity=s.parity/\s'.t.length=s.t.length:=by
 cases m with
 | @mv a _ M ha hw hsrc MT hmono hT=>
  obtain⟨o1,o2,o3,o4,o5,o6,o7,o8,o9,RP,KX⟩:=kM s a
  exact⟨o1,o3,o9,o6,o5,by rw[o4]⟩
 |ref M ha k0 k1 hT hn=>exact⟨rfl,rfl,rfl,rfl,rfl,rfl⟩
 | @note a M ha=>
  obtain⟨m1,m2,m3,m4,m5,m6,m7,m8,m9,m10,m11,m12,m13⟩:=jm s a
  exact⟨m1,m10,m12,m4,m3,by rw[m2]⟩
 |dL M ha=>exact⟨rfl,rfl,rfl,rfl,rfl,rfl⟩
 |other M h1 h2 h3 h4 h5 h6 h7 h8 h9 h10 h11 h12=>exact⟨h1,h6,h10,h8,h7,by rw[h5]⟩
 |hdl M h1 h2=>exact⟨rfl,rfl,rfl,rfl,rfl,h1⟩
theorem lK.others{az:List Int}{N:Int->dB}{hs:List Int}{K:Int->Prop}{s s':af}{cur cur':List Int}{loc loc':Int->Int}(m:lK az N hs K s cur loc s' cur' loc'):s'.C=s.C/\s'.g=s.g/\s'.look=s.look/\s'.phase=s.phase/\s'.parity=s.parity/\s'.t.length=s.t.length:=by
 induction m with
 |refl=>exact⟨rfl,rfl,rfl,rfl,rfl,rfl⟩
 |more _ q ih=>
  obtain⟨a1,a2,a3,a4,a5,a6⟩:=ih
  obtain⟨b1,b2,b3,b4,b5,b6⟩:=q.others
  exact⟨b1.trans a1,b2.trans a2,b3.trans a3,b4.trans a4,b5.trans a5,b6.trans a6⟩
theorem CE(s:af):s.fC.C=s.C/\ (s.look<=64->0<=s.C.pages->s.C.pages<=64->s.fC.look<=64)/\ ((s.g.list.length:Int)<=s.g.most->(s.fC.g.list.length:Int)<=s.fC.g.most)/\s.fC.aG=s.aG/\s.fC.t=s.t/\s.fC.y=s.y:=by
 unfold af.fC
 split
 ·exact⟨rfl,fun h _ _=>h,id,rfl,rfl,rfl⟩
 ·split
  ·unfold af.wu
   split
   ·have A:=uU s.vT (s.now s.g.j_)
    refine⟨A.C,fun h _ _=>by rw[A.look];exact h,fun h=>A.gl ?_,A.aG,A.t,A.y⟩
    have:s.g.list.dropLast.length<=s.g.list.length:=by rw[List.length_dropLast];omega
    show(s.g.list.dropLast.length:Int)<=s.g.most
    omega
   ·split
    ·have A:=wZ s.dO s
     refine⟨A.C,fun h h0 h1=> ?_,fun h=>A.gl h,A.aG,A.t,A.y⟩
     show(if(nK s.dO s).C.pages<=(nK s.dO s).look+1 then(-1:Int)else(nK s.dO s).look+1)<=64
     rw[A.C,A.look]
     split<;>omega
    ·split
     ·have A:mO s.jV s.uT:=(tC _ _ _ _).trans (tC _ _ _ _)
      exact⟨A.C,fun h _ _=>by rw[A.look];show(0:Int)<=64;decide,fun h=>A.gl h,A.aG,A.t,A.y⟩
     ·exact⟨rfl,fun h _ _=>h,id,rfl,rfl,rfl⟩
  ·unfold af.qQ
   split
   ·rename_i n _
    have key: ∀(l:List Int) (s:af),(eH l s).C=s.C/\ (eH l s).look=s.look/\ (eH l s).g=s.g/\ (eH l s).aG=s.aG/\ (eH l s).t=s.t/\ (eH l s).y=s.y:=by
     intro l
     induction l with
     |nil=>intro s;exact⟨rfl,rfl,rfl,rfl,rfl,rfl⟩
     |cons a l ih=>
      intro s
      obtain⟨h1,h2,h3,h4,h5,h6⟩:=ih (s.dD a)
      have:(s.dD a).C=s.C/\ (s.dD a).look=s.look/\ (s.dD a).g=s.g/\ (s.dD a).aG=s.aG/\ (s.dD a).t=s.t/\ (s.dD a).y=s.y:=by
       unfold af.dD
       split<;>exact⟨rfl,rfl,rfl,rfl,rfl,rfl⟩
      obtain⟨k1,k2,k3,k4,k5,k6⟩:=this
      exact⟨h1.trans k1,h2.trans k2,h3.trans k3,h4.trans k4,h5.trans k5,h6.trans k6⟩
    obtain⟨h1,h2,h3,h4,h5,h6⟩:=key (s.dJ n) s
    refine⟨h1,fun h _ _=> ?_,fun h=> ?_,h4,h5,h6⟩
    ·show(eH (s.dJ n) s).look<=64
     rw[h2];exact h
    ·show((eH (s.dJ n) s).g.list.length:Int)<=(eH (s.dJ n) s).g.most
     rw[h3];exact h
   ·exact⟨rfl,fun h _ _=>h,id,rfl,rfl,rfl⟩
theorem z_(s:af):s.dF.C=s.C/\ (s.look<=64->s.dF.look<=64)/\ ((s.g.list.length:Int)<=s.g.most->(s.dF.g.list.length:Int)<=s.dF.g.most)/\s.dF.aG=s.aG/\s.dF.t=s.t/\s.dF.y=s.y:=by
 unfold af.dF
 split
 ·have A:=B_ s.t s.gB
  exact⟨A.C,fun h=>by rw[A.look];show(-1:Int)<=64;decide,fun h=>A.gl h,A.aG,A.t,A.y⟩
 ·exact⟨rfl,id,id,rfl,rfl,rfl⟩
theorem Qm{s:af}{cur az:List Int}(l:Lay s cur az):s.uh<=2000000:=by
 obtain⟨n1,n2,n3,n4,n5,n6,n7,n8,n9,n10⟩:=l.nums
 unfold af.uh
 split
 ·have:=(jK s.vT (s.now s.g.j_)).2
  omega
 ·split
  ·have h1:=lU s.dO s
   have h2:=jO l.ov.ok (s.o.begin s.look.toNat) (s.o.begin s.look.toNat+s.o.words) s.o.pages.length
   have h3:s.dO=s.o.bJ (s.o.begin s.look.toNat) (s.o.begin s.look.toNat+s.o.words) s.o.pages.length:=rfl
   rw[<-h3]at h2
   have h4:=l.cf.small
   have h5:=l.ol
   have h6:=l.cf.p2
   have:s.o.pages.length<=64:=by omega
   unfold af.BX
   omega
  ·split
   ·have h1:=iJ s.y.cu.toNat s.jV s.y.cf (s.y.cf+s.y.cu)
    have h2:=iJ s.y.ou.toNat s.ng s.y.of (s.y.of+s.y.ou)
    unfold af.BV af.tu
    omega
   ·omega
theorem Io: ∀(k:Nat) (s:af) (d work:Int),work-d<=k-> ∃x,s.vO (k+1) d work=some x
 |0,s,d,work,h=>by
  unfold af.vO
  rw[if_neg (by omega)]
  exact⟨_,rfl⟩
 |k+1,s,d,work,h=>by
  unfold af.vO
  by_cases h1:d<work
  ·rw[if_pos h1]
   by_cases h2:s.qf=true
   ·rw[if_pos h2]
    have:=GN s h2
    exact Io k _ _ _ (by omega)
   ·rw[if_neg h2]
    exact⟨_,rfl⟩
  ·rw[if_neg h1]
   exact⟨_,rfl⟩
theorem zL: ∀(k:Nat) (s:af) (d work:Int),work-d<=k-> ∃x,s.jD (k+1) d work=some x
 |0,s,d,work,h=>by
  unfold af.jD
  rw[if_neg (by omega)]
  exact⟨_,rfl⟩
 |k+1,s,d,work,h=>by
  unfold af.jD
  by_cases h1:d<work
  ·rw[if_pos h1]
   by_cases h2:s.yV=true
   ·rw[if_pos h2]
    have:=Ie s h2
    exact zL k _ _ _ (by omega)
   ·rw[if_neg h2]
    exact⟨_,rfl⟩
  ·rw[if_neg h1]
   exact⟨_,rfl⟩
def af.ja(s:af)(work:Int):af×Int:=(s.vO (work.toNat+1) 0 work).getD (s,0)
def af.nV(s:af)(work:Int):af×Int:=(s.jD (work.toNat+1) 0 work).getD (s,0)
theorem Ez(s:af)(work:Int):s.vO (work.toNat+1) 0 work=some (s.ja work):=by
 obtain⟨x,hx⟩:=Io work.toNat s 0 work (by omega)
 unfold af.ja
 rw[hx]
 rfl
theorem EC(s:af)(work:Int):s.jD (work.toNat+1) 0 work=some (s.nV work):=by
 obtain⟨x,hx⟩:=zL work.toNat s 0 work (by omega)
 unfold af.nV
 rw[hx]
 rfl
theorem adm(s:af)(a b c:Int):(s.vP a b c).t.length=s.t.length:=by
 unfold af.vP
 split
 ·show(bP (s.fetch _).t a _).length=_
  rw[nS]
  unfold af.fetch
  rw[(nR _ _).t]
  unfold af.move
  split
  ·rfl
  ·split
   ·rw[(kM s _).2.2.2.1]
   ·rfl
 ·rfl
theorem adn(s:af)(i n k:Int):(s.set i n k).t.length=s.t.length:=by
 unfold af.set
 split
 ·unfold af.xP
  split
  ·rw[(jm (s.put i n k) (aB s.t i)).2.1]
   rfl
  ·rfl
 ·rfl
section
variable{s:af}{c:gX}{N:Int->dB}{hs:List Int}{m:Int}
theorem dM.inv(T:dM s c N hs m): ∃cur az,Inv s cur az gq gq/\iy s cur:=by
 obtain⟨cur,az,K,loc,G,M,h⟩:=T.ex
 exact⟨cur,az,G.inv,G.hdl⟩
theorem dM.Vu(T:dM s c N hs m):s.FO:=by
 obtain⟨cur,az,K,loc,G,M,h⟩:=T.ex
 exact⟨cur,az,N,hs,K,loc,m,G,T.m0,fun n hn=>(h n hn).2⟩
theorem dM.fits(T:dM s c N hs m):c.Fits:=by
 obtain⟨cur,az,I,_⟩:=T.inv
 rw[<-T.cf]
 exact I.lay.cf
theorem dM.um(T:dM s c N hs m):s.Lj:=by
 obtain⟨cur,az,K,loc,G,M,h⟩:=T.ex
 have hf:=G.inv.lay.cf
 refine⟨G.inv.hds.par,G.inv.lay.ov,T.lk,by have:=hf.p2;omega,fun hp=> ?_⟩
 have hne:s.g.list≠[]:=by
  intro e
  unfold bZ.o_ at hp
  rw[e]at hp
  cases hp
 have hlast:s.g.j_=s.g.list.getLast hne:=by
  unfold bZ.j_
  rw[List.getLastD_eq_getLast?,List.getLast?_eq_some_getLast hne]
  rfl
 have hmem:s.g.j_∈s.g.list:=by rw[hlast];exact List.getLast_mem hne
 have hO:=(M.st _ hmem).1
 obtain⟨n1,n2,n3,n4,n5,_⟩:=G.inv.lay.nums
 rcases hO with h|h|h|h
 ·rw[h];exact⟨by decide,by decide⟩
 ·have h1:=h.1
  have h2:=h.2
  exact⟨by omega,by omega⟩
 ·obtain⟨p1,p2,p3,p4⟩:=G.inv.lay.pos (.inl h)
  exact⟨by omega,by omega⟩
 ·obtain⟨p1,p2,p3,p4⟩:=G.inv.lay.pos (.inr (.inl h))
  exact⟨by omega,by omega⟩
theorem dM.eG(T:dM s c N hs m):dM s.eG c N hs m:=by
 obtain⟨cur,az,K,loc,G,M,h⟩:=T.ex
 cases hmv:s.aG with
 |false=>
  have e:s.eG=s:=by
   unfold af.eG af.which
   rw[if_pos hmv]
   rfl
  rw[e]
  exact T
 |true=>
  rcases Qa G hmv with⟨_,c1,l1,G1,C⟩|⟨_,e,_,_,_,G1⟩
  ·obtain⟨q1,q2,q3,q4,q5,q6⟩:=C.others
   exact⟨⟨c1,az,K,l1,G1,C.rW G.rep.hk M,h⟩,T.m0,q1.trans T.cf,by rw[q3];exact T.lk,by rw[q2];exact T.gl,by rw[q2];exact T.adC,C.aaF T.od,by rw[q6];exact T.tl⟩
  ·rw[e]
   have hput:=Ih s.g (s.dN s.g.list) (by have:=mZ s s.g.list;have:=T.gl;omega)
   refine⟨⟨cur,[],_,loc,G1,M.finish G G1 T.gl,fun n hn=>h n hn.1⟩,T.m0,T.cf,T.lk, ?_,by show(s.g.put (s.dN s.g.list)).most=_;rw[hput];exact T.adC,T.od.frame rfl rfl rfl (fun _ _=>rfl),T.tl⟩
   show((s.g.put (s.dN s.g.list)).list.length:Int)<=(s.g.put (s.dN s.g.list)).most
   rw[hput]
   have:=mZ s s.g.list
   have:=T.gl
   show((s.dN s.g.list).length:Int)<=s.g.most
   omega
theorem dM.eY(T:dM s c N hs m):dM s.eY c N hs m:=by
 obtain⟨cur,az,K,loc,G,M,h⟩:=T.ex
 cases hmv:s.aG with
 |true=>
  have e:s.eY=s:=by
   unfold af.eY af.jh
   rw[hmv]
   rfl
  rw[e]
  exact T
 |false=>
  obtain⟨_,_,B,RB,c1,l1,G1,C⟩:=NI G hmv
  obtain⟨q1,q2,q3,q4,q5,q6⟩:=C.others
  exact⟨⟨c1,cur,K,l1,G1,C.rW G.rep.hk (M.begun G hmv G.rep.hk),h⟩,T.m0,q1.trans T.cf,by rw[q3];exact T.lk,by rw[q2];exact T.gl,by rw[q2];exact T.adC,C.aaF (T.od.frame rfl rfl rfl (fun _ _=>rfl)),by rw[q6];exact T.tl⟩
theorem dM.fC(T:dM s c N hs m):dM s.fC c N hs m:=by
 obtain⟨cur,az,K,loc,G,M,h⟩:=T.ex
 obtain⟨K',hk,G',M'⟩:=J8 G M
 obtain⟨q1,q2,q3,_,q5,_⟩:=CE s
 have hf:=G.inv.lay.cf
 exact⟨⟨cur,az,K',loc,G',M',fun n hn=>h n (hk n hn)⟩,T.m0,q1.trans T.cf,q2 T.lk hf.p1 hf.p2,q3 T.gl,(aa_ s).trans T.adC,aby G.inv.lay.ov M.ph T.od,by rw[q5];exact T.tl⟩
theorem dM.dF(T:dM s c N hs m):dM s.dF c N hs m:=by
 obtain⟨cur,az,K,loc,G,M,h⟩:=T.ex
 obtain⟨G',M',_⟩:=Ik G M
 obtain⟨q1,q2,q3,_,q5,_⟩:=z_ s
 exact⟨⟨cur,az,K,loc,G',M',h⟩,T.m0,q1.trans T.cf,q2 T.lk,q3 T.gl,(aaR s).trans T.adC,aa9 T.od,by rw[q5];exact T.tl⟩
theorem dM.made(T:dM s c N hs m){i p q:Int}(he:s.gI i p q=0):dM (s.made i p q) c (qN N m (BI p q)) (bP hs i m) (m+1):=by
 obtain⟨cur,az,K,loc,G,M,h⟩:=T.ex
 have h0:m≠0:=by have:=T.m0;omega
 have hk: ¬K m:=fun hq=>by have:=(h m hq).2;omega
 refine⟨⟨_,az,_,_,(yc G he h0 hk).1,Ql G M he h0 hk, ?_⟩,by have:=T.m0;omega,T.cf,T.lk,T.gl,T.adC,by
  obtain⟨G',hT,same,dQ,hnew,hC,hwl,ho⟩:=yc G he h0 hk
  exact T.od.frame rfl rfl ho (fun b hb=>by rw[(same b (.inr (.inr hb))).1]),by show((bP s.t i _).length:Int)=_;rw[nS];exact T.tl⟩
 rintro n (rfl|hn)
 ·have:=T.m0;omega
 ·have:=h n hn;omega
theorem dM.got(T:dM s c N hs m)(x y z:Int):dM (s.vP x y z) c N (NG N hs x y z) m:=by
 obtain⟨cur,az,K,loc,G,M,h⟩:=T.ex
 obtain⟨c1,l1,G1,M1⟩:=Vt G M x y z
 have hsame:(s.vP x y z).C=s.C/\ (s.vP x y z).look=s.look/\ ((s.g.list.length:Int)<=s.g.most->((s.vP x y z).g.list.length:Int)<=(s.vP x y z).g.most):=by
  unfold af.vP
  split
  ·have key: ∀r,(s.move r).C=s.C/\ (s.move r).look=s.look/\ (s.move r).g=s.g:=by
    intro r
    unfold af.move
    split
    ·exact⟨rfl,rfl,rfl⟩
    ·split
     ·obtain⟨o1,o2,o3,o4,o5,o6,o7,o8,o9,RP,KX⟩:=kM s r
      exact⟨o1,o9,o3⟩
     ·exact⟨rfl,rfl,rfl⟩
   obtain⟨k1,k2,k3⟩:=key (aQ s.ws (aB s.t y) z)
   have A:=nR (s.move (aQ s.ws (aB s.t y) z)) (s.dA (aQ s.ws (aB s.t y) z))
   exact⟨A.C.trans k1,A.look.trans k2,fun h=>A.gl (by rw[k3];exact h)⟩
  ·exact⟨rfl,rfl,id⟩
 exact⟨⟨c1,az,K,l1,G1,M1,h⟩,T.m0,hsame.1.trans T.cf,by rw[hsame.2.1];exact T.lk,hsame.2.2 T.gl,(acE s x y z).trans T.adC,acU G T.od x y z,by rw[adm];exact T.tl⟩
theorem dM.set(T:dM s c N hs m)(x y z:Int):dM (s.set x y z) c (DC N hs x y z) hs m:=by
 obtain⟨cur,az,K,loc,G,M,h⟩:=T.ex
 have hsame:(s.set x y z).C=s.C/\ (s.set x y z).look=s.look/\ (s.set x y z).g=s.g:=by
  unfold af.set
  split
  ·unfold af.xP
   split
   ·obtain⟨m1,m2,m3,m4,m5,m6,m7,m8,m9,m10,m11,m12,m13⟩:=jm (s.put x y z) (aB s.t x)
    exact⟨m1,m12,m10⟩
   ·exact⟨rfl,rfl,rfl⟩
  ·exact⟨rfl,rfl,rfl⟩
 exact⟨⟨cur,az,K,loc,P9 G x y z,Sv G M x y z,h⟩,T.m0,hsame.1.trans T.cf,by rw[hsame.2.1];exact T.lk,by rw[hsame.2.2];exact T.gl,by rw[hsame.2.2];exact T.adC,acV G T.od x y z,by rw[adn];exact T.tl⟩
theorem dM.write(T:dM s c N hs m)(x y v:Int):dM {s with ws:=s.writeW x y v} c (wV N hs x y v) hs m:=by
 obtain⟨cur,az,K,loc,G,M,h⟩:=T.ex
 exact⟨⟨cur,az,K,loc,JO G x y v,N7 G M x y v,h⟩,T.m0,T.cf,T.lk,T.gl,T.adC,abZ G T.od x y v,T.tl⟩
theorem dM.clear(T:dM s c N hs m)(x:Int):dM {s with t:=bP s.t x 0} c N (bP hs x 0) m:=by
 obtain⟨cur,az,K,loc,G,M,h⟩:=T.ex
 exact⟨⟨cur,az,K,loc,JM G x,N8 G M x,h⟩,T.m0,T.cf,T.lk,T.gl,T.adC,T.od.frame rfl rfl rfl (fun _ _=>rfl),by show((bP s.t x 0).length:Int)=_;rw[nS];exact T.tl⟩
theorem dM.copy(T:dM s c N hs m)(x y:Int):dM {s with t:=s.tX x y} c N (Eg hs x y) m:=by
 obtain⟨cur,az,K,loc,G,M,h⟩:=T.ex
 exact⟨⟨cur,az,K,loc,ND G x y,Qk G M x y,h⟩,T.m0,T.cf,T.lk,T.gl,T.adC,T.od.frame rfl rfl rfl (fun _ _=>rfl),by show((s.tX x y).length:Int)=_;unfold af.tX;split<;>first|(rw[nS];exact T.tl)|exact T.tl⟩
theorem tied_new{c:gX}(h:c.Fits)(hst:0<=c.stack):dM (gJ c) c (fun _=>YL) (List.replicate c.handles.toNat 0) 1:=
 ⟨⟨[],[],_,_,He h,SB h,fun n hn=>hn.elim⟩,by omega,rfl,by show(-1:Int)<=64;decide,by show((0:Nat):Int)<=c.stack;omega,rfl,acT h,by show((List.replicate c.handles.toNat (0:Int)).length:Int)=_;rw[List.length_replicate];have:=h.h1;omega⟩
theorem dM.vO: ∀(k:Nat) {s:af} (_:dM s c N hs m) (d work:Int) (s':af) (d':Int),s.vO k d work=some (s',d')->dM s' c N hs m
 |0,s,T,d,work,s',d',h=>by cases h
 |k+1,s,T,d,work,s',d',h=>by
  unfold af.vO at h
  split at h
  ·split at h
   ·exact dM.vO k T.eG _ _ _ _ h
   ·simp only[Option.some.injEq,Prod.mk.injEq]at h
    rw[<-h.1]
    exact T.eG
  ·simp only[Option.some.injEq,Prod.mk.injEq]at h
   rw[<-h.1]
   exact T
theorem dM.jD: ∀(k:Nat) {s:af} (_:dM s c N hs m) (d work:Int) (s':af) (d':Int),s.jD k d work=some (s',d')->dM s' c N hs m
 |0,s,T,d,work,s',d',h=>by cases h
 |k+1,s,T,d,work,s',d',h=>by
  unfold af.jD at h
  split at h
  ·split at h
   ·exact dM.jD k T.fC _ _ _ _ h
   ·simp only[Option.some.injEq,Prod.mk.injEq]at h
    rw[<-h.1]
    exact T.fC
  ·simp only[Option.some.injEq,Prod.mk.injEq]at h
   rw[<-h.1]
   exact T
theorem dM.ja(T:dM s c N hs m)(work:Int):dM (s.ja work).1 c N hs m:=dM.vO _ T 0 work _ (s.ja work).2 (Ez s work)
theorem dM.nV(T:dM s c N hs m)(work:Int):dM (s.nV work).1 c N hs m:=dM.jD _ T 0 work _ (s.nV work).2 (EC s work)
theorem dM.Ub: ∀(k:Nat) {s:af} (_:dM s c N hs m) (d work:Int),work<=100000000000->s.GM k d work
 |0,_,_,_,_,_=>trivial
 |k+1,s,T,d,work,hw=>by
  intro h1
  obtain⟨cur,az,I,_⟩:=T.inv
  have:=RZ I
  exact⟨(PW I).1,by omega,fun _=>dM.Ub k T.eG _ _ hw⟩
theorem SC{s:af}{cur az:List Int}(l:Lay s cur az):s.tJ<=2000000:=by
 have h1:=Qm l
 unfold af.tJ
 split
 ·omega
 ·split
  ·exact h1
  ·unfold af.pX
   split
   ·rename_i n _
    have h2:=jO l.ov.ok (s.o.begin n) (s.o.begin n+s.o.words) s.o.pages.length
    have h3:s.dJ n=s.o.bJ (s.o.begin n) (s.o.begin n+s.o.words) s.o.pages.length:=rfl
    rw[<-h3]at h2
    have h4:=l.ol
    have h5:=l.cf.p2
    omega
   ·omega
theorem dM.Ip: ∀(k:Nat) {s:af} (_:dM s c N hs m) (d work:Int),work<=100000000000->s.uX k d work
 |0,_,_,_,_,_=>trivial
 |k+1,s,T,d,work,hw=>by
  intro h1
  obtain⟨cur,az,I,_⟩:=T.inv
  have:=SC I.lay
  exact⟨T.um,by omega,fun _=>dM.Ip k T.fC _ _ hw⟩
end
section
variable{s:af}{c:gX}{N:Int->dB}{hs:List Int}{m:Int}
theorem zM(pc:Nat)(L:aX)(T:dM s c N hs m)(work:Int)(hw:work<=100000000000)(w:World)(h:Hp)(hi:In w h)(hc:ah pc L s h):
  Calls Tryz.prog 104 #[ptr pc, .int .i64 work] w fun e w'=>e= .returned (.int .i64 (s.ja work).2)/\ ∃h',ah pc L (s.ja work).1 h'/\aj h h' w w':=
 Nl pc L s work w h hi hc _ _ _ (Ez s work) (dM.Ub _ T 0 work hw)
theorem zN(pc:Nat)(L:aX)(T:dM s c N hs m)(work:Int)(hw:work<=100000000000)(w:World)(h:Hp)(hi:In w h)(hc:ah pc L s h):
  Calls Tryz.prog 105 #[ptr pc, .int .i64 work] w fun e w'=>e= .returned (.int .i64 (s.nV work).2)/\ ∃h',ah pc L (s.nV work).1 h'/\aj h h' w w':=
 NV pc L s work w h hi hc _ _ _ (EC s work) (dM.Ip _ T 0 work hw)
theorem wC(pc:Nat)(L:aX)(T:dM s c N hs m)(w:World)(h:Hp)(hi:In w h)(hc:ah pc L s h):
  Calls Tryz.prog 73 #[ptr pc] w fun e w'=>e= .returned (.bool s.jh)/\ ∃h',ah pc L s.eY h'/\aj h h' w w':=
 GU pc L s w h hi hc T.Vu.WV
theorem wE(pc:Nat)(L:aX)(T:dM s c N hs m)(w:World)(h:Hp)(hi:In w h)(hc:ah pc L s h):
  Calls Tryz.prog 72 #[ptr pc] w fun e w'=>e= .returned (.bool s.um)/\ ∃h',ah pc L s.dF h'/\aj h h' w w':=
 Ig pc L s w h hi hc (by obtain⟨cur,az,I,_⟩:=T.inv;exact I.hds.par)
end
end Go.Proofs.YtibemcgdmembeaaGreat
namespace Go.Proofs.YtibemcgdmembeaaGreat
open Go.RowKit
def af.Zr(s:af):Pn:=s.stats s.o.used
theorem aax(pc:Nat)(L:aX){s:af}(Z:s.FO)(w:World)(h:Hp)(hi:In w h)(hc:ah pc L s h):
  Calls Tryz.prog 74 #[ptr pc] w fun e w'=>e= .returned (.agg (statCells s.Zr))/\ ∃h',ah pc L s h'/\aj h h' w w':=by
 obtain⟨cur,az,I,_⟩:=Z.inv
 refine Calls.mono (aa4 pc L s s.o.used w h hi hc (fun W h hW hm=>abo L.po s.o W h hW hm I.lay.ov.ok)) fun e w' hh=> ?_
 exact⟨hh.1,h,hc,hh.2⟩
theorem aaI(pc:Nat)(L:aX){s:af}(Z:s.FO)(w:World)(h:Hp)(hi:In w h)(hc:ah pc L s h):
  Calls Tryz.prog 115 #[ptr pc] w fun e w'=>e= .returned (.tuple #[.int .i64 s.oO, .bool s.qf])/\ ∃h',ah pc L s.eG h'/\aj h h' w w':=Jw pc L s w h hi hc Z.adl
theorem abD(a0 a1 a2 a3 a4 a5 a6 a7:Int)(w:World):
  Sem.run Tryz.prog (Instr.field 61 (.agg #[.int .i64 a0, .int .i64 a1, .int .i64 a2, .int .i64 a3, .int .i64 a4, .int .i64 a5, .int .i64 a6, .int .i64 a7]) 5) w= .ok (.int .i64 a5) w:=by
 simp[go_sem,Instr.field,asAgg,Tryz.underlying61]
theorem acv(a0 a1 a2 a3 a4 a5 a6 a7:Int)(w:World):
  Sem.run Tryz.prog (Instr.field 61 (.agg #[.int .i64 a0, .int .i64 a1, .int .i64 a2, .int .i64 a3, .int .i64 a4, .int .i64 a5, .int .i64 a6, .int .i64 a7]) 6) w= .ok (.int .i64 a6) w:=by
 simp[go_sem,Instr.field,asAgg,Tryz.underlying61]
end Go.Proofs.YtibemcgdmembeaaGreat
