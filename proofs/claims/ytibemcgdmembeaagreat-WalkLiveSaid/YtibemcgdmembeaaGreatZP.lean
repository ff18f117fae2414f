/- Full work on a heap that holds a graph: it holds it still, and words are what live ones have. Conditions: a heap that holds a graph. -/
import Derived.Test.YtibemcgdmembeaaGreatRows
import Derived.Test.YtibemcgdmembeaaGreatZB
import Derived.Test.YtibemcgdmembeaaGreatZH
import Derived.Test.YtibemcgdmembeaaGreatZF
import Derived.Test.YtibemcgdmembeaaGreatZL
set_option linter.unusedVariables false
set_option linter.unusedSimpArgs false
set_option maxRecDepth 100000
set_option maxHeartbeats 4000000
namespace Go.Proofs.YtibemcgdmembeaaGreat
open Go.RowKit
theorem aaY{f:Int->Int}{z:Int}: ∀{l:List Int},(∀a∈l,f a=z)->lY (l.map f)=(l.length:Int)*z
 |[],_=>by simp[lY]
 |a::l,h=>by
  have ih:=aaY (fun b hb=>h b (List.mem_cons_of_mem _ hb))
  simp only[List.map_cons,lY,List.length_cons]
  rw[h a (List.mem_cons_self ..),ih]
  have:(((l.length+1:Nat):Int))*z=(l.length:Int)*z+z:=by
   rw[Int.natCast_add,Int.add_mul]
   simp
  rw[this]
  omega
theorem aaZ{s:aP}(v:s.V): ∀k:Nat,k<=s.pages.length-> ∃e:Int,s.base+s.Zw k<=e/\s.base<=e/\0<=s.Zw k/\ (∀j:Nat,k<=j->s.begin j<e-> ∃g',s.pages[j]? =some g'/\g'.kind=3)/\e<=s.begin s.pages.length
 |0,_=>by
  have hw:=v.w16
  have hp:0<=(s.pages.length:Int)*s.words:=Int.mul_nonneg (by omega) (by omega)
  refine⟨s.base,by simp[aP.Zw],Int.le_refl _,by simp[aP.Zw],fun j _ h=> ?_, ?_⟩
  ·have:0<=(j:Int)*s.words:=Int.mul_nonneg (by omega) (by omega)
   unfold aP.begin at h
   omega
  ·unfold aP.begin
   omega
 |k+1,hk=>by
  obtain⟨e,h1,h2,h0,h3,h4⟩:=aaZ v k (by omega)
  have hw:=v.w16
  obtain⟨g,hg⟩: ∃g,s.pages[k]? =some g:=⟨_,List.getElem?_eq_getElem (by omega)⟩
  have hu:s.Zw (k+1)=s.Zw k+lY ((s.iE k g).map s.Zo):=by
   simp[aP.Zw,aP.ZE,hg]
  have hb:s.begin (k+1)=s.begin k+s.words:=by
   unfold aP.begin
   have:(((k+1:Nat):Int))*s.words=(k:Int)*s.words+s.words:=by
    rw[Int.natCast_add,Int.add_mul]
    simp
   omega
  have hmono: ∀i j:Nat,i<=j->s.begin i<=s.begin j:=by
   intro i j hij
   unfold aP.begin
   have:=Int.mul_le_mul_of_nonneg_right (show(i:Int)<=j by omega) (show 0<=s.words by omega)
   omega
  have hsz: ∀a∈s.iE k g,s.Zo a=if g.kind=2 then dS s.words g.size*s.words else g.size:=by
   intro a ha
   unfold aP.Zo
   rcases(sJ v hg).1 ha with⟨h,he⟩|⟨h,n,hn,he⟩
   ·rw[(cZ v).2 ⟨k,g,hg, .inl ⟨h,he,rfl⟩⟩,if_pos h]
    rfl
   ·rw[(cZ v).2 ⟨k,g,hg, .inr ⟨h,rfl,n,hn,he⟩⟩,if_neg (by omega)]
    rfl
  rw[hu,aaY hsz]
  by_cases k2:g.kind=2
  ·obtain⟨z1,z2,z3,z4⟩:=v.big k g hg k2
   obtain⟨p1,p2,_⟩:=fU (page:=s.words) z1 z2 hw
   have hl:s.iE k g=[s.begin k]:=by unfold aP.iE;rw[if_pos k2]
   have hek:e<=s.begin k:=by
    by_cases h:s.begin k<e
    ·obtain⟨g',hg',hk'⟩:=h3 k (Nat.le_refl _) h
     rw[hg]at hg'
     cases hg'
     omega
    ·omega
   have hpos:0<=dS s.words g.size*s.words:=Int.mul_nonneg (by omega) (by omega)
   rw[hl,if_pos k2]
   simp only[List.length_cons,List.length_nil]
   have e1:(((0+1:Nat):Int))*(dS s.words g.size*s.words)=dS s.words g.size*s.words:=by simp
   rw[e1]
   refine⟨s.begin k+dS s.words g.size*s.words,by omega,by omega,by omega, ?_, ?_⟩
   ·intro j hj hlt
    have hjk:(j:Int)<k+dS s.words g.size:=by
     by_cases hh:(j:Int)<k+dS s.words g.size
     ·exact hh
     ·exfalso
      have:=Int.mul_le_mul_of_nonneg_right (show(k:Int)+dS s.words g.size<=j by omega) (show 0<=s.words by omega)
      rw[Int.add_mul]at this
      unfold aP.begin at hlt
      omega
    obtain⟨g',hg',hk'⟩:=z4 (j-k) (by omega) (by omega)
    rw[show k+(j-k)=j by omega]at hg'
    exact⟨g',hg',hk'⟩
   ·have:=Int.mul_le_mul_of_nonneg_right z3 (show 0<=s.words by omega)
    rw[Int.add_mul]at this
    unfold aP.begin
    omega
  ·rw[if_neg k2]
   by_cases k1:g.kind=1
   ·obtain⟨z1,z2,z3,z4⟩:=v.blk k g hg k1
    have hek:e<=s.begin k:=by
     by_cases h:s.begin k<e
     ·obtain⟨g',hg',hk'⟩:=h3 k (Nat.le_refl _) h
      rw[hg]at hg'
      cases hg'
      omega
     ·omega
    have hl:((s.iE k g).length:Int)<=g.used.length:=by
     unfold aP.iE
     rw[if_neg k2]
     have:=qi (s.begin k) g.size g.used 0
     omega
    have hm1:=Int.mul_le_mul_of_nonneg_right hl (show 0<=g.size by omega)
    have hm2:(g.used.length:Int)*g.size<=s.words:=by
     rw[z4]
     exact Int.ediv_mul_le _ (by omega)
    have hm3:0<=((s.iE k g).length:Int)*g.size:=Int.mul_nonneg (by omega) (by omega)
    refine⟨s.begin (k+1),by omega,by omega,by omega, ?_,hmono _ _ hk⟩
    intro j hj hlt
    have:=hmono (k+1) j hj
    omega
   ·have hl:s.iE k g=[]:=by
     unfold aP.iE
     rw[if_neg k2,v.az k g hg k1]
     rfl
    rw[hl]
    refine⟨e,by simp;omega,h2,by simp;omega,fun j hj=>h3 j (by omega),h4⟩
theorem acW{s:aP}(v:s.V):0<=s.used/\s.used<=(s.pages.length:Int)*s.words:=by
 obtain⟨e,h1,h2,h0,h3,h4⟩:=aaZ v s.pages.length (Nat.le_refl _)
 unfold aP.used
 unfold aP.begin at h4
 omega
end Go.Proofs.YtibemcgdmembeaaGreat
namespace Go.Proofs.YtibemcgdmembeaaGreat
open Go.RowKit
theorem Zv(s:af): ∀k,s.Zl (k+1)=s.eG.Zl k
 |0=>rfl
 |k+1=>by
  show(s.Zl (k+1)).eG=(s.eG.Zl k).eG
  rw[Zv s k]
theorem ab2{s:af}(h:s.aG=false):s.eG=s/\s.oO=0/\s.qf=false:=by
 unfold af.eG af.oO af.qf af.which
 rw[if_pos h]
 exact⟨rfl,rfl,rfl⟩
theorem step_some{s:af}(h:s.aG=true):1<=s.oO:=by
 unfold af.oO af.which
 rw[if_neg (by rw[h];decide)]
 have h1:=qo s
 have h2:=sQ s
 split
 ·simp only[af.fZ];omega
 ·split
  ·rename_i x l _
   have:=kz s.fV x
   simp only[af.fZ];omega
  ·split
   ·rename_i n _
    have:=(kZ (s.bF n) (s.fB n)).1
    simp only[af.fZ];omega
   ·split
    ·simp only[af.fZ];omega
    ·simp only[af.fZ];omega
theorem aap(s:af)(a:Int):(s.move a).done.minors=s.done.minors:=by
 unfold af.move
 split
 ·rfl
 ·split
  ·unfold af.moved
   simp only
   split<;>rfl
  ·rfl
theorem aaT(s:af)(a:Int)(k:Nat):(s.dV a k).done.minors=s.done.minors:=by
 unfold af.dV
 split
 ·exact aap ..
 ·exact aap ..
theorem Z9(s:af)(a:Int): ∀k,(s.jb a k).done.minors=s.done.minors
 |0=>rfl
 |k+1=>(aaT (s.jb a k) a k).trans (Z9 s a k)
theorem abA(s:af)(a:Int):(s.note a).done.minors=s.done.minors:=by rw[(jm s a).2.2.2.2.2.2.2.2.2.2.2.2]
theorem ZF(s:af)(a:Int):(s.through a).done.minors=s.done.minors:=by
 unfold af.through
 split
 ·rw[abA];exact Z9 ..
 ·exact Z9 ..
theorem aab(s:af)(a:Int):(s.fD a).done.minors=s.done.minors:=by
 unfold af.fD
 split
 ·exact ZF ..
 ·rfl
theorem aaq: ∀(s:af) (l:List Int),(s.iF l).done.minors=s.done.minors
 |s,[]=>rfl
 |s,a::l=>(aaq (s.fD a) l).trans (aab s a)
theorem abN(s:af):s.rF.done.minors=s.done.minors:=by
 unfold af.rF
 split
 ·exact ZF ..
 ·rfl
theorem acH{s:af}{cur az:List Int}(I:Inv s cur az gq gq)(hmv:s.aG=true):
  (s.qf=true/\s.eG.meas 1<=s.meas 1/\s.eG.done.minors=s.done.minors)∨(s.qf=false/\s.eG=s.gK/\s.row=[]):=by
 have key:(og s.which=true/\ (s.stepOf s.which).meas 1<=s.meas 1/\ (s.stepOf s.which).done.minors=s.done.minors)∨(og s.which=false/\s.stepOf s.which=s.gK/\s.row=[]):=by
  unfold af.which
  rw[if_neg (by rw[hmv];decide)]
  by_cases hr:0<s.row.length
  ·rw[if_pos hr]
   left
   obtain⟨h1,_⟩:=abr I hmv (c:=1) (.inl rfl) hr
   refine⟨rfl, ?_,abN s⟩
   show s.rF.meas 1<=s.meas 1
   omega
  ·rw[if_neg hr]
   cases hx:s.r.tb.list with
   |cons x l=>
    left
    obtain⟨h1,_⟩:=Z7 (JJ I hmv hx) hmv (c:=1) (.inl rfl) x
    exact⟨rfl,h1,aab _ _⟩
   |nil=>
    cases hf:s.r.tc.first with
    |some n=>
     left
     obtain⟨IP,ho⟩:=G8 I hmv hx n
     obtain⟨h1,_⟩:=aah (c:=1) (.inl rfl) (s.bF n) IP hmv ho
     exact⟨rfl,h1,aaq _ _⟩
    |none=>
     by_cases hs':s.pR=true
     ·simp only[hs',if_true]
      left
      obtain⟨hsc,c1,L,I2,hq⟩:=BB I hmv hs'
      have h1:=ZU I hmv (c:=1) (.inl rfl) (E:=gq) (.inl hsc)
      exact⟨rfl,h1,ZF s _⟩
     ·simp only[hs']
      right
      exact⟨rfl,rfl,List.length_eq_zero_iff.1 (by omega)⟩
 exact key
theorem abd: ∀(f:Nat) {s:af} {cur az:List Int} (_:Inv s cur az gq gq),(s.aG=true->s.todo<f)-> ∃n:Nat,n<=f/\ (∀k,k<n->(s.Zl k).aG=true)/\ (s.Zl n).aG=false/\
  (s.aG=true->(s.Zl n).y.cu<=s.meas 1/\ (s.Zl n).done.minors=wrap64 (s.done.minors+1))/\ (s.aG=false->n=0)
 |f,s,cur,az,I,h=>by
  cases hmv:s.aG with
  |false=>exact⟨0,by omega,fun k hk=>by omega,hmv,fun h=>(by cases h),fun _=>rfl⟩
  |true=>
   have hf:=h hmv
   have hb:=(Zu I hmv).1
   cases f with
   |zero=>omega
   |succ f=>
    rcases acH I hmv with⟨hB,h1,h2⟩|⟨hB,h1,h2⟩
    ·obtain⟨_,c1,o1,J,K,hm⟩:=PW I
     have ht:=aai I hB
     have PV:=(hm hB).2.2
     obtain⟨n,n1,n2,n3,n4,n5⟩:=abd f J (fun _=>by omega)
     obtain⟨n6,n7⟩:=n4 PV
     refine⟨n+1,by omega, ?_,by rw[Zv];exact n3,fun _=>⟨by rw[Zv];omega,by rw[Zv,n7,h2]⟩,fun h=>by cases h⟩
     intro k hk
     cases k with
     |zero=>exact hmv
     |succ k=>rw[Zv];exact n2 k (by omega)
    ·have e:s.Zl 1=s.gK:=h1
     refine⟨1,by omega, ?_,by rw[e];rfl,fun _=> ?_,fun h=>by cases h⟩
     ·intro k hk
      obtain rfl:k=0:=by omega
      exact hmv
     ·rw[e]
      obtain⟨n1,n2,n3,n4,n5,n6,n7,n8,n9,n10⟩:=I.lay.nums
      have hgl:=rP I.lay.ro
      have hcp:=I.hds.cp
      refine⟨?_,rfl⟩
      have VH:s.gK.y.cu=s.y.cu:=by
       show s.y.drop.cu=s.y.cu
       obtain⟨a1,a2,a3,a4,a5,a6⟩:=s.y
       cases a6<;>rfl
      rw[VH]
      unfold af.meas
      omega
theorem af.FO.ends{s:af}(Z:s.FO)(hN:7*s.C.aU+2*(s.C.buffer+s.C.pages*s.C.page+1)<=7000): ∃n:Nat,n<3999/\ (∀k,k<n->(s.Zl k).aG=true)/\ (s.Zl n).aG=false/\
  (s.aG=true->(s.Zl n).y.cu<=s.y.cu+s.y.ou/\ (s.Zl n).done.minors=wrap64 (s.done.minors+1))/\ (s.aG=false->n=0):=by
 obtain⟨cur,az,I,_⟩:=Z.inv
 obtain⟨n1,n2,n3,n4,n5,n6,n7,n8,n9,n10⟩:=I.lay.nums
 obtain⟨n,m1,m2,m3,m4,m5⟩:=abd 3998 I (fun hmv=>by
  have h1:=(Zu I hmv).2
  have h2:=I.rem.tc.2.2.2
  have h3:=aaH (words:=s.C.pages*s.C.page) (card:=s.C.card) (by omega) I.lay.cf.c1
  have h4:=I.rem.bm.2.2.2
  omega)
 refine⟨n,by omega,m2,m3,fun hmv=> ?_,m5⟩
 obtain⟨k1,k2⟩:=m4 hmv
 refine⟨?_,k2⟩
 have hgl:=rP I.lay.ro
 have hcp:=I.hds.cp
 have hrl:=I.hds.rl
 unfold af.meas at k1
 omega
end Go.Proofs.YtibemcgdmembeaaGreat
namespace Go.Proofs.YtibemcgdmembeaaGreat
open Go.RowKit
def ZO(K:Int->Prop)(s:af)(cur:List Int)(loc:Int->Int):Prop:= ∀a,(a∈cur∨(s.o.aH a).isSome=true)-> ∃n,K n/\loc n=a
section
variable{az:List Int}{N:Int->dB}{hs:List Int}{K:Int->Prop}
theorem NH.tight{s s':af}{cur cur':List Int}{loc loc':Int->Int}(m:NH az N hs K s cur loc s' cur' loc')(T:ZO K s cur loc):ZO K s' cur' loc':=by
 cases m with
 | @mv a _ M ha hw hsrc MT hmono hT=>
  obtain⟨hmv,R,ht,E,F,I⟩:=M
  have h0:a≠0:=I.lay.not_zero (.inr (.inl ha))
  have ac5:s.now a=a:=by rw[I.lay.iw ha,hw]
  have hna: ∀b,(b∈cur∨(s.o.aH b).isSome=true)->b≠a:=by
   intro b hb e
   have h1:=I.lay.gz ha
   rw[<-e,I.lay.fK hb]at h1
   cases h1
  have acG: ∃n,K n/\loc n=a:=by
   rcases hsrc with h|⟨b,k,hb,k0,k1,hk⟩
   ·obtain⟨j,hj,e⟩:=List.getElem_of_mem h
    have hj2:j<hs.length:=by rw[R.hl];exact hj
    have h1:=R.hv j hj2
    rw[List.getD_eq_getElem?_getD,List.getElem?_eq_getElem hj]at h1
    have h2:s.now a=loc (hs.getD j 0):=by rw[<-h1,<-e];rfl
    rw[ac5]at h2
    rcases R.hk _ (fE hj2)with h3|h3
    ·rw[h3,R.l0]at h2
     exact absurd h2 h0
    ·exact⟨_,h3,h2.symm⟩
   ·obtain⟨n,hn,rfl⟩:=T b hb
    have hpn:=R.pn n hn
    have h1:=R.pt n hn k.toNat (by omega)
    rw[show((k.toNat:Nat):Int)=k by omega,hk,ac5]at h1
    rcases R.pk n hn _ (fE (l:=(N n).ptrs) (j:=k.toNat) (by omega))with h3|h3
    ·rw[h3,R.l0]at h1
     exact absurd h1 h0
    ·exact⟨_,h3,h1.symm⟩
  intro b hb
  by_cases e:b=s.kD a
  ·obtain⟨n,hn,hl⟩:=acG
   exact⟨n,hn,by show(if loc n=a then s.kD a else loc n)=b;rw[if_pos hl,e]⟩
  ·have hb':b∈cur∨(s.o.aH b).isSome=true:=by
    rcases hb with hb|hb
    ·rw[MT.PR]at hb
     split at hb
     ·exact .inl hb
     ·rcases List.mem_append.1 hb with h|h
      ·exact .inl h
      ·exact absurd (List.mem_singleton.1 h) e
    ·rw[MT.size b (.inl e)]at hb
     exact .inr hb
   obtain⟨n,hn,hl⟩:=T b hb'
   refine⟨n,hn, ?_⟩
   show(if loc n=a then s.kD a else loc n)=b
   rw[if_neg (by rw[hl];exact hna b hb'),hl]
 |ref M ha k0 k1 hT hn=>exact T
 | @note a M ha=>
  intro b hb
  rw[(jm s a).2.2.2.2.2.2.1]at hb
  exact T b hb
 |dL M ha=>exact T
 |other M h1 h2 h3 h4 h5 h6 h7 h8 h9 h10 h11 h12=>
  intro b hb
  rw[h4]at hb
  exact T b hb
 |hdl M h1 h2=>exact T
def aa0(az:List Int)(o0:aP)(s:af):Prop:=s.o=o0/\ (∀b∈az,(ag s.ws b).nZ=0)/\2<=s.C.d_
theorem ab3{s:af}{cur:List Int}{E F:Int->Prop}(I:Inv s cur az E F){a b:Int}(ha:(s.o.aH a).isSome=true)(hb:b∈az):ag (s.note a).ws b=ag s.ws b:=by
 unfold af.note
 split
 ·have hba:b≠a:=by
   intro e
   have h1:=I.lay.gz hb
   rw[e,I.lay.fK (.inr ha)]at h1
   cases h1
  obtain⟨p1,p2,p3,p4⟩:=I.lay.pos (.inr (.inr ha))
  have:=(aA s.ws a).1
  show ag (iQ s.ws a _) b=ag s.ws b
  rw[dX,vZ (by omega) (by omega),if_neg hba,<-dX]
 ·rfl
theorem NH.adw{o0:aP}{s s':af}{cur cur':List Int}{loc loc':Int->Int}(m:NH az N hs K s cur loc s' cur' loc')(T:aa0 az o0 s):aa0 az o0 s':=by
 obtain⟨t1,t2,t3⟩:=T
 cases m with
 | @mv a _ M ha hw hsrc MT hmono hT=>
  obtain⟨hmv,R,ht,E,F,I⟩:=M
  have Yi:=t2 a ha
  have htk:s.lW (ag s.ws a).words (s.oW a)=none:=by
   unfold af.lW
   rw[if_neg]
   unfold af.oW
   rw[Yi]
   omega
  refine⟨?_, ?_,by rw[(kM s a).1];exact t3⟩
  ·have e:(s.moved a).o=(s.placed (ag s.ws a).words (s.oW a)).o:=rfl
   rw[e,af.placed,htk]
   exact t1
  ·intro b hb
   by_cases e:b=a
   ·rw[e,MT.hdA];exact Yi
   ·have hO:gQ s cur az b:= .inr (.inl hb)
    have:=(aA s.ws b).1
    rw[(MT.rest b hO e).head (by omega)]
    exact t2 b hb
 | @ref a k T M ha k0 k1 hT hn=>
  obtain⟨hmv,R,ht,E,F,I⟩:=M
  have I1:Inv s cur az (fun b=>E b∨b=a) F:=I.weak (fun b h=> .inl h) (fun b h=>h)
  obtain⟨_,r1,r2,r3,r4,r5⟩:=kN I1 (a:=a) (ha.elim .inl (fun h=> .inr ⟨h, .inr rfl⟩)) k0 k1 hT
  refine⟨t1, ?_,t3⟩
  intro b hb
  have hba:b≠a:=by
   intro e
   have h1:=I.lay.gz hb
   rw[e,I.lay.fK ha]at h1
   cases h1
  have:=(aA s.ws b).1
  show(ag (iQ s.ws (place a k) (u64 T)) b).nZ=0
  rw[(r2 b (.inr (.inl hb)) hba).head (by omega)]
  exact t2 b hb
 | @note a M ha=>
  obtain⟨hmv,R,ht,E,F,I⟩:=M
  obtain⟨m1,m2,m3,m4,m5,m6,m7,_⟩:=jm s a
  refine⟨m7.trans t1, ?_,by rw[m1];exact t3⟩
  intro b hb
  rw[ab3 I ha hb]
  exact t2 b hb
 | @dL a M ha=>
  obtain⟨hmv,R,ht,E,F,I⟩:=M
  obtain⟨I1,u1,u2,u3,u4,u5,u6⟩:=sS (E':=fun b=>E b∨b=a) (F':=F) I ha (fun b h=> .inl h) (.inr rfl) (fun _ _ h=>h)
  refine⟨t1, ?_,t3⟩
  intro b hb
  have hba:b≠a:=by
   intro e
   have h1:=I.lay.gz hb
   rw[e,I.lay.fK (.inr ha)]at h1
   cases h1
  rw[u2 b (.inr (.inl hb)) hba]
  exact t2 b hb
 |other M h1 h2 h3 h4 h5 h6 h7 h8 h9 h10 h11 h12=>
  refine⟨h4.trans t1, ?_,by rw[h1];exact t3⟩
  intro b hb
  rw[h2]
  exact t2 b hb
 |hdl M h1 h2=>exact⟨t1,t2,t3⟩
theorem Rep.fewer{s:af}{cur:List Int}{loc:Int->Int}{K':Int->Prop}(R:Rep s cur az N hs K loc)(hk: ∀n,K' n->K n)(hh: ∀x∈hs,x=0∨K' x)(hp: ∀n,K' n-> ∀m∈(N n).ptrs,m=0∨K' m):Rep s cur az N hs K' loc:=
 ⟨fun h=>R.k0 (hk 0 h),R.l0,fun n m hn hm=>R.inj n m (hk n hn) (hk m hm),fun n hn=>R.pl n (hk n hn),fun n hn=>R.sz n (hk n hn),fun n hn=>R.pn n (hk n hn),hp,fun n hn=>R.pt n (hk n hn),fun n hn=>R.sc n (hk n hn),R.hl,hh,R.hv⟩
theorem aar{o0:aP}: ∀(k:Nat) {s:af} {cur:List Int} {loc:Int->Int},Good s cur az N hs K loc->ZO K s cur loc->(∀j,j<k->(s.Zl j).aG=true)->
  ((s.Zl k).aG=true/\ ∃cur' loc',Good (s.Zl k) cur' az N hs K loc'/\ZO K (s.Zl k) cur' loc'/\ (aa0 az o0 s->aa0 az o0 (s.Zl k)))∨((s.Zl k).aG=false/\ (s.aG=true-> ∃cur' K' loc',Good (s.Zl k) cur' [] N hs K' loc'/\ZO K' (s.Zl k) cur' loc'/\ (∀n,K' n->K n)/\ (aa0 az o0 s->(s.Zl k).o=o0)))
 |0,s,cur,loc,G,T,_=>by
  cases hmv:s.aG with
  |true=>exact .inl ⟨hmv,cur,loc,G,T,id⟩
  |false=>exact .inr ⟨hmv,fun h=>by cases h⟩
 |k+1,s,cur,loc,G,T,hj=>by
  have hk:=hj k (by omega)
  rcases aar k G T (fun j h=>hj j (by omega))with⟨h1,c1,l1,G1,T1,adF⟩|⟨h1,_⟩
  ·rcases Qa G1 h1 with⟨hB,c2,l2,G2,C2⟩|⟨hB,hf,h3,h4,h5,G2⟩
   ·have hm2:(s.Zl k).eG.aG=true:=by
     obtain⟨_,c3,o3,J,K3,hm⟩:=PW G1.inv
     exact(hm hB).2.2
    refine .inl ⟨hm2,c2,l2,G2,lK.keep (P:=fun s c l=>ZO K s c l) (fun m=>m.tight) C2 T1,fun h=>lK.keep (P:=fun s _ _=>aa0 az o0 s) (fun m=>m.adw) C2 (adF h)⟩
   ·have e:s.Zl (k+1)=(s.Zl k).gK:=hf
    rw[e]
    refine .inr ⟨rfl,fun _=>⟨c1,_,l1,G2, ?_,fun n h=>h.1,fun h=>(adF h).1⟩⟩
    intro a ha
    obtain⟨n,hn,hl⟩:=T1 a ha
    refine⟨n,⟨hn, ?_⟩,hl⟩
    rw[hl]
    intro ho
    have h1:=G1.inv.lay.gz ho
    rw[G1.inv.lay.fK ha]at h1
    cases h1
  ·rw[hk]at h1
   cases h1
end
end Go.Proofs.YtibemcgdmembeaaGreat
namespace Go.Proofs.YtibemcgdmembeaaGreat
open Go.RowKit
theorem aa1{l m:List Int}(h:l.Perm m):lY l=lY m:=by
 induction h with
 |nil=>rfl
 |cons x _ ih=>simp only[lY];omega
 |swap x y l=>simp only[lY];omega
 |trans _ _ ih1 ih2=>exact ih1.trans ih2
theorem abT{ws:List Int}: ∀{l:List Int} {f t:Int},ig ws f t l->t-f=lY (l.map fun a=>(ag ws a).words)
 |[],f,t,h=>by simp only[ig]at h;simp[lY];omega
 |a::l,f,t,h=>by
  obtain⟨rfl,h2⟩:=h
  have:=abT h2
  simp only[List.map_cons,lY]
  omega
theorem ZX{l m:List Int}(hl:l.Nodup)(hm:m.Nodup)(h: ∀a,a∈l↔a∈m):l.Perm m:=(List.perm_ext_iff_of_nodup hl hm).2 h
theorem aaJ{α:Type}{f:α->Int}{l:List α}(h: ∀a∈l,∀b∈l,f a=f b->a=b)(hn:l.Nodup):(l.map f).Nodup:=
 List.pairwise_map.2 (List.Pairwise.imp_of_mem (fun ha hb hne e=>hne (h _ ha _ hb e)) hn)
theorem ZP{p:Int->Bool}{f:Int->Int}: ∀(l:List Int),lY (l.map fun a=>if p a=true then f a else 0)=lY ((l.filter p).map f)
 |[]=>rfl
 |a::l=>by
  have ih:=ZP (p:=p) (f:=f) l
  simp only[List.map_cons,lY]
  rw[ih]
  cases hp:p a
  ·rw[List.filter_cons_of_neg (by simp[hp])]
   simp
  ·rw[List.filter_cons_of_pos hp]
   simp[lY]
end Go.Proofs.YtibemcgdmembeaaGreat
namespace Go.Proofs.YtibemcgdmembeaaGreat
open Go.RowKit
def af.Zm(s:af):Nat->af
 |0=>s
 |k+1=>(s.Zm k).fC
theorem Zn(s:af): ∀k,s.Zm (k+1)=s.fC.Zm k
 |0=>rfl
 |k+1=>by
  show(s.Zm (k+1)).fC=(s.fC.Zm k).fC
  rw[Zn s k]
section
variable{s:af}{c:gX}{N:Int->dB}{hs:List Int}{m:Int}
theorem dM.Zl(T:dM s c N hs m): ∀k,dM (s.Zl k) c N hs m
 |0=>T
 |k+1=>(dM.Zl T k).eG
theorem dM.Zm(T:dM s c N hs m): ∀k,dM (s.Zm k) c N hs m
 |0=>T
 |k+1=>(dM.Zm T k).fC
end
structure ZK(s:af)(n:Nat):Prop where
 on: ∀k,k<n->(s.Zl k).aG=true
 off:(s.Zl n).aG=false
 most:n<=1000000000
structure ZC(s:af)(n:Nat):Prop where
 on: ∀k,k<n->(s.Zm k).yV=true
 off:(s.Zm n).yV=false
 most:n<=1000000000
def af.fin(s:af)(a b:Nat):af:=(s.Zl a).Zm (b+1)
structure ZJ(s:af)(a b d f:Nat):Prop where
 e1:ZK s a
 e2:ZC (s.Zl a) b
 e3:ZC (s.fin a b).dF d
 e4:ZK ((s.fin a b).dF.Zm (d+1)).eY f
def af.Zy(s:af)(a b d f:Nat):af:=(((s.fin a b).dF.Zm (d+1)).eY).Zl f
end Go.Proofs.YtibemcgdmembeaaGreat
namespace Go.Proofs.YtibemcgdmembeaaGreat
open Go.RowKit
theorem aas{α:Type}{p q:α->Bool}: ∀{l:List α},(∀x∈l,q x=true->p x=true)->(∃a∈l,p a=true/\q a=false)->l.countP q+1<=l.countP p
 |[],_,⟨a,ha,_⟩=>by cases ha
 |x::l,h,⟨a,ha,h1,h2⟩=>by
  rw[List.countP_cons,List.countP_cons]
  have hl: ∀x∈l,q x=true->p x=true:=fun y hy=>h y (List.mem_cons_of_mem _ hy)
  have hm:l.countP q<=l.countP p:=List.countP_mono_left (fun y hy=>hl y hy)
  rcases List.mem_cons.1 ha with rfl|ha
  ·rw[h1,h2]
   simp
   omega
  ·have ih:=aas hl ⟨a,ha,h1,h2⟩
   have h3:=h x (List.mem_cons_self ..)
   cases hq:q x
   ·simp
    omega
   ·rw[h3 hq]
    simp
    omega
open Classical in
noncomputable def Zp(s:af)(K:Int->Prop)(loc:Int->Int)(m:Nat):Nat:=(List.range m).countP (fun n:Nat=>decide (K (n:Int)/\ (ag s.ws (loc (n:Int))).parity≠s.parity))
noncomputable def ZQ(s:af)(K:Int->Prop)(loc:Int->Int)(m P:Nat):Nat:=s.g.list.length+Zp s K loc m*(P+3)+(if s.g.lost=true then P+2 else 0)
def Exact(s:af)(K:Int->Prop)(loc:Int->Int):Prop:= ∀a,(s.o.aH a).isSome=true->(ag s.ws a).parity=s.parity-> ∃n,K n/\loc n=a
section
variable{cur az:List Int}{N:Int->dB}{hs hb:List Int}{K:Int->Prop}{loc:Int->Int}{X Z:Int->Prop}
theorem ZH.same{s s':af}(x:ZH cur az K loc s s'):mO s s':=by
 cases x with
 |found n hn h1 hp S hA hB hg=>exact S
 |black n hn hp S hA hB hg=>exact S
theorem Zt.same{s s':af}(x:Zt cur az K loc s s'):mO s s':=by
 induction x with
 |refl=>exact .refl _
 |more _ y ih=>exact ih.trans y.same
theorem ZH.pot{s s':af}(x:ZH cur az K loc s s')(hi: ∀n k,K n->K k->loc n=loc k->n=k)(pl: ∀n,K n->gQ s cur az (loc n)){m:Nat}(hm: ∀n,K n->0<n/\n<m)(P:Nat):ZQ s' K loc m P<=ZQ s K loc m P:=by
 cases x with
 |found n hn h1 hp S hA hB hg=>
  have hw:Zp s' K loc m+1<=Zp s K loc m:=by
   unfold Zp
   refine aas (fun k _ hk=> ?_) ⟨n.toNat, ?_, ?_, ?_⟩
   ·simp only[decide_eq_true_eq]at hk⊢
    refine⟨hk.1,fun e=>hk.2 ?_⟩
    rw[S.parity]
    by_cases e2:loc k=loc n
    ·rw[e2,hA]
    ·rw[hB _ (pl _ hk.1) e2]
     exact e
   ·have:=hm n hn
    exact List.mem_range.2 (by omega)
   ·have e:((n.toNat:Nat):Int)=n:=by have:=hm n hn;omega
    simp only[decide_eq_true_eq]
    rw[e]
    exact⟨hn,hp⟩
   ·have e:((n.toNat:Nat):Int)=n:=by have:=hm n hn;omega
    simp only[decide_eq_false_iff_not]
    rw[e]
    rintro⟨_,h⟩
    rw[hA,S.parity]at h
    exact h rfl
  have hmul:(Zp s' K loc m+1)*(P+3)<=Zp s K loc m*(P+3):=Nat.mul_le_mul_right _ hw
  rw[Nat.add_mul]at hmul
  unfold ZQ
  rw[hg]
  unfold bZ.push
  split
  ·simp only[if_true]
   split<;>omega
  ·simp only[List.length_append,List.length_cons,List.length_nil]
   omega
 |black n hn hp S hA hB hg=>
  have hw:Zp s' K loc m<=Zp s K loc m:=by
   unfold Zp
   refine List.countP_mono_left (fun k _ hk=> ?_)
   simp only[decide_eq_true_eq]at hk⊢
   refine⟨hk.1,fun e=>hk.2 ?_⟩
   rw[S.parity]
   by_cases e2:loc k=loc n
   ·rw[e2]at e⊢
    rw[hA]
    exact e
   ·rw[hB _ (pl _ hk.1) e2]
    exact e
  have hmul:Zp s' K loc m*(P+3)<=Zp s K loc m*(P+3):=Nat.mul_le_mul_right _ hw
  unfold ZQ
  rw[hg]
  omega
theorem Zt.pot{s s':af}(x:Zt cur az K loc s s')(hi: ∀n k,K n->K k->loc n=loc k->n=k)(pl: ∀n,K n->gQ s cur az (loc n)){m:Nat}(hm: ∀n,K n->0<n/\n<m)(P:Nat):ZQ s' K loc m P<=ZQ s K loc m P:=by
 induction x with
 |refl=>exact Nat.le_refl _
 |more y z ih=>exact Nat.le_trans (z.pot hi (fun n hn=>Qi y.same (pl n hn)) hm P) ih
theorem ZH.exact{s s':af}(x:ZH cur az K loc s s')(E:Exact s K loc):Exact s' K loc:=by
 intro a ha hp
 rw[x.same.o]at ha
 rw[x.same.parity]at hp
 cases x with
 |found n hn h1 hq S hA hB hg=>
  by_cases e:a=loc n
  ·exact⟨n,hn,e.symm⟩
  ·rw[hB a (.inr (.inr ha)) e]at hp
   exact E a ha hp
 |black n hn hq S hA hB hg=>
  by_cases e:a=loc n
  ·exact⟨n,hn,e.symm⟩
  ·rw[hB a (.inr (.inr ha)) e]at hp
   exact E a ha hp
theorem Zt.exact{s s':af}(x:Zt cur az K loc s s')(E:Exact s K loc):Exact s' K loc:=by
 induction x with
 |refl=>exact E
 |more y z ih=>exact z.exact ih
def ac6(o:aP):Nat:=o.pages.countP (·.pending)
def abB(l:Int)(P:Nat):Nat:=if 0<=l then max 1 (P+1-l.toNat)else 0
noncomputable def phi(s:af)(K:Int->Prop)(loc:Int->Int)(m P:Nat):Nat:=if s.phase=1 then ZQ s K loc m P+abB s.look P+P+1 else if s.phase=2 then ac6 s.o else 0
theorem abC(o:aP):ac6 o<=o.pages.length:=List.countP_le_length
theorem abO{l l':List bC}(hl:l'.length=l.length)(h: ∀(n:Nat) (g':bC),l'[n]? =some g'->g'.pending=true-> ∃g,l[n]? =some g/\g.pending=true):l'.countP (·.pending)<=l.countP (·.pending):=by
 induction l generalizing l' with
 |nil=>rw[List.length_eq_zero_iff.1 hl];exact Nat.le_refl _
 |cons a l ih=>
  cases l' with
  |nil=>simp at hl
  |cons b l'=>
   have h2:=ih (by simpa using hl) (fun n g' hg hp=>by
    obtain⟨g,k1,k2⟩:=h (n+1) g' (by simpa using hg) hp
    exact⟨g,by simpa using k1,k2⟩)
   rw[List.countP_cons,List.countP_cons]
   cases hb:b.pending
   ·simp
    omega
   ·obtain⟨g,k1,k2⟩:=h 0 b (by simp) hb
    simp at k1
    rw[k1,k2]
    simp
    exact h2
theorem ab4(s:aP)(a:Int)(n:Nat)(g':bC)(h:(s.give a).pages[n]? =some g')(hp:g'.pending=true): ∃g,s.pages[n]? =some g/\g.pending=true:=by
 unfold aP.give at h
 cases hq:s.at a with
 |none=>rw[hq]at h;exact⟨g',h,hp⟩
 |some x=>
  obtain⟨m,k⟩:=x
  rw[hq]at h
  simp only[aP.BU]at h
  cases hg:s.pages[m]? with
  |none=>rw[hg]at h;exact⟨g',h,hp⟩
  |some g=>
   rw[hg]at h
   simp only at h
   have hml:m<s.pages.length:=(List.getElem?_eq_some_iff.1 hg).1
   unfold aP.tq at h
   split at h
   ·have h:(kQ s.pages m (dS s.words g.size).toNat)[n]? =some g':=h
    rw[BQ]at h
    split at h
    ·cases h;cases hp
    ·exact⟨g',h,hp⟩
   ·unfold aP.BR at h
    split at h
    ·have h:(s.pages.set m yC)[n]? =some g':=h
     rw[List.getElem?_set]at h
     split at h
     ·first
       | (rw[if_pos hml]at h;cases h;cases hp)
       | (cases h;cases hp)
     ·exact⟨g',h,hp⟩
    ·have h:(s.pages.set m (g.use k false))[n]? =some g':=h
     rw[List.getElem?_set]at h
     split at h
     ·rename_i e
      cases h
      exact⟨g,by rw[<-e];exact hg,hp⟩
     ·exact⟨g',h,hp⟩
theorem ZY{s:af}(v:s.o.V)(a:Int):(s.dD a).o.V/\ (s.dD a).o.pages.length=s.o.pages.length/\ ∀(n:Nat) (g':bC),(s.dD a).o.pages[n]? =some g'->g'.pending=true-> ∃g,s.o.pages[n]? =some g/\g.pending=true:=by
 unfold af.dD
 split
 ·exact⟨v,rfl,fun n g' h1 h2=>⟨g',h1,h2⟩⟩
 ·cases hz:(s.o.aH a).isSome with
  |false=>
   have e:s.o.give a=s.o:=by
    unfold aP.give
    unfold aP.aH at hz
    rw[Option.isSome_map]at hz
    cases hq:s.o.at a with
    |none=>rfl
    |some x=>rw[hq]at hz;cases hz
   rw[e]
   exact⟨v,rfl,fun n g' h1 h2=>⟨g',h1,h2⟩⟩
  |true=>
   refine⟨(yX v hz).v,(yX v hz).len,fun n g' h1 h2=> ?_⟩
   exact ab4 s.o a n g' h1 h2
theorem aat: ∀(l:List Int) {s:af} (_:s.o.V),(eH l s).o.V/\ (eH l s).o.pages.length=s.o.pages.length/\ ∀(n:Nat) (g':bC),(eH l s).o.pages[n]? =some g'->g'.pending=true-> ∃g,s.o.pages[n]? =some g/\g.pending=true
 |[],s,v=>⟨v,rfl,fun n g' h1 h2=>⟨g',h1,h2⟩⟩
 |a::l,s,v=>by
  obtain⟨a1,a2,a3⟩:=ZY v a
  obtain⟨b1,b2,b3⟩:=aat l a1
  refine⟨b1,b2.trans a2,fun n g' h1 h2=> ?_⟩
  obtain⟨g,k1,k2⟩:=b3 n g' h1 h2
  exact a3 n g k1 k2
theorem aa2: ∀{l:List Bool} {k n:Nat},firstT l k=some n->k<=n/\l[n-k]? =some true
 |[],_,_,h=>by cases h
 |b::l,k,n,h=>by
  unfold firstT at h
  cases b
  ·rw[if_neg (by decide)]at h
   obtain⟨h1,h2⟩:=aa2 h
   refine⟨by omega, ?_⟩
   rw[show n-k=(n-(k+1))+1 by omega]
   simpa using h2
  ·rw[if_pos rfl]at h
   cases h
   exact⟨Nat.le_refl _,by simp⟩
theorem ab5{l l':List bC}(hl:l'.length=l.length)(h: ∀(n:Nat) (g':bC),l'[n]? =some g'->g'.pending=true-> ∃g,l[n]? =some g/\g.pending=true){k:Nat}(hk: ∃g,l[k]? =some g/\g.pending=true)(hk': ∀g',l'[k]? =some g'->g'.pending=false):l'.countP (·.pending)+1<=l.countP (·.pending):=by
 induction l generalizing l' k with
 |nil=>obtain⟨g,h1,_⟩:=hk;simp at h1
 |cons a l ih=>
  cases l' with
  |nil=>simp at hl
  |cons b l'=>
   have hl2:l'.length=l.length:=by simpa using hl
   have h2: ∀(n:Nat) (g':bC),l'[n]? =some g'->g'.pending=true-> ∃g,l[n]? =some g/\g.pending=true:=fun n g' hg hp=>by
    obtain⟨g,k1,k2⟩:=h (n+1) g' (by simpa using hg) hp
    exact⟨g,by simpa using k1,k2⟩
   rw[List.countP_cons,List.countP_cons]
   cases k with
   |zero=>
    obtain⟨g,h1,h3⟩:=hk
    simp at h1
    have h4:=hk' b (by simp)
    have:=abO hl2 h2
    rw[h4,h1,h3]
    simp
    omega
   |succ k=>
    have h5:=ih hl2 h2 (k:=k) (by simpa using hk) (by simpa using hk')
    cases hb:b.pending
    ·simp
     omega
    ·obtain⟨g,k1,k2⟩:=h 0 b (by simp) hb
     simp at k1
     rw[k1,k2]
     simp
     exact h5
theorem aac{s:af}(G:Good s cur az N hs K loc)(M:jA s cur az N hs K loc Dc (dG s)){m:Nat}(hm: ∀n,K n->0<n/\n<m){P:Nat}(hP:s.C.pages=P):
  ∃K':Int->Prop,(∀n,K' n->K n)/\Good s.fC cur az N hs K' loc/\jA s.fC cur az N hs K' loc Dc (dG s.fC)/\ (Exact s K loc->Exact s.fC K' loc)/\ (s.yV=true->phi s.fC K' loc m P+1<=phi s K loc m P):=by
 have pl: ∀n,K n->gQ s cur az (loc n):=fun n hn=>(G.rep.pl n hn).kE
 have hi:=G.rep.inj
 unfold af.fC af.yV
 by_cases h0:s.phase=0
 ·rw[if_pos h0,if_pos h0]
  exact⟨K,fun _ h=>h,G,M,id,fun h=>by cases h⟩
 ·rw[if_neg h0,if_neg h0]
  by_cases h1:s.phase=1
  ·rw[if_pos h1,if_pos h1]
   have acX:phi s K loc m P=ZQ s K loc m P+abB s.look P+P+1:=by unfold phi;rw[if_pos h1]
   unfold af.wu
   by_cases hp:s.g.o_=true
   ·rw[if_pos hp]
    have A:=pop_mk G M G.rep.hk h1 hp
    refine⟨K,fun _ h=>h,A.good,A.rW.weak A.rW.hd (fun _ h=>h) (fun n _ _ hz=>ny A.same.look (by rw[A.same.o]) (by rw[A.same.o]) (fun h=>by rw[A.same.o];exact h) hz),fun E=>A.ch.exact (s:=s.vT) E,fun _=> ?_⟩
    have hq:=A.ch.pot (s:=s.vT) hi pl hm P
    have hpop:ZQ s.vT K loc m P+1=ZQ s K loc m P:=by
     have hne:s.g.list≠[]:=by
      intro e
      unfold bZ.o_ at hp
      rw[e]at hp
      cases hp
     have hl:s.vT.g.list.length+1=s.g.list.length:=by
      show s.g.list.dropLast.length+1=_
      rw[List.length_dropLast]
      have:=List.length_pos_iff.2 hne
      omega
     have hw:Zp s.vT K loc m=Zp s K loc m:=rfl
     have hlo:s.vT.g.lost=s.g.lost:=rfl
     unfold ZQ
     rw[hw,hlo]
     omega
    rw[acX]
    unfold phi
    rw[if_pos (by rw[A.same.phase];exact h1),A.same.look]
    have:s.vT.look=s.look:=rfl
    rw[this]
    omega
   ·rw[if_neg hp]
    by_cases hl:0<=s.look
    ·rw[if_pos hl]
     obtain⟨A,B,C,D⟩:=Sr G M G.rep.hk h1 hl
     refine⟨K,fun _ h=>h,A,B,fun E=>(D.exact E:Exact (nK s.dO s) K loc),fun _=> ?_⟩
     have hq:=D.pot hi pl hm P
     rw[acX]
     unfold phi
     rw[if_pos (by show(nK s.dO s).phase=1;rw[C.phase];exact h1)]
     have e1:ZQ s.uV K loc m P=ZQ (nK s.dO s) K loc m P:=rfl
     have e2:s.uV.look=if(nK s.dO s).C.pages<=(nK s.dO s).look+1 then(-1:Int)else(nK s.dO s).look+1:=rfl
     rw[C.C,C.look,hP]at e2
     rw[e1,e2]
     unfold abB
     rw[if_pos hl]
     split
     ·rw[if_neg (by decide)]
      omega
     ·rw[if_pos (by omega)]
      omega
    ·rw[if_neg hl]
     by_cases hlo:s.g.lost=true
     ·rw[if_pos hlo]
      obtain⟨A,B,C,D⟩:=Sm G M G.rep.hk h1
      refine⟨K,fun _ h=>h,A,B,fun E=>D.exact (s:=s.jV) E,fun _=> ?_⟩
      have hq:=D.pot (s:=s.jV) hi pl hm P
      have hf:ZQ s.jV K loc m P+(P+2)=ZQ s K loc m P:=by
       have hw:Zp s.jV K loc m=Zp s K loc m:=rfl
       have h3:s.jV.g.lost=false:=rfl
       have h4:s.jV.g.list=s.g.list:=rfl
       unfold ZQ
       rw[hw,h3,h4,hlo]
       simp
      rw[acX]
      unfold phi
      rw[if_pos (by rw[C.phase];exact h1),C.look]
      have:s.jV.look=0:=rfl
      rw[this]
      unfold abB
      rw[if_pos (Int.le_refl _),if_neg hl]
      simp
      omega
     ·rw[if_neg hlo]
      obtain⟨A,B⟩:=NZ G M h1 (by simpa using hp) (by omega) (by simpa using hlo)
      refine⟨_,fun _ h=>h.1,A,B,fun E a ha hpa=> ?_,fun _=> ?_⟩
      ·have e:s.tH.o.aH a=s.o.aH a:=xe (Cj s.o) G.inv.lay.ov a
       rw[e]at ha
       obtain⟨n,hn,rfl⟩:=E a ha hpa
       exact⟨n,⟨hn,hpa⟩,rfl⟩
      ·rw[acX]
       unfold phi
       rw[if_neg (by show¬(2:Int)=1;decide),if_pos (show s.tH.phase=2 from rfl)]
       have h3:=abC s.tH.o
       have h4:s.tH.o.pages.length=s.o.pages.length:=sZ _ _
       have h5:=G.inv.lay.ol
       omega
  ·rw[if_neg h1,if_neg h1]
   have h2:s.phase=2:=by have:=M.ph;omega
   unfold af.qQ
   cases hq:s.o.qA with
   |none=>
    obtain⟨A,B⟩:=Su G M h2
    exact⟨K,fun _ h=>h,A,B,id,fun h=>by cases h⟩
   |some n=>
    obtain⟨A,B,C,_⟩:=J7 G M h2 n
    obtain⟨b2,b3,b4⟩:=aat (s.dJ n) G.inv.lay.ov (s:=s)
    have key: ∀(l:List Int) (s:af) (_:s.o.V),(∀a,((eH l s).o.aH a).isSome=true->(s.o.aH a).isSome=true)/\ (eH l s).ws=s.ws/\ (eH l s).parity=s.parity:=by
     intro l
     induction l with
     |nil=>intro s _;exact⟨fun a h=>h,rfl,rfl⟩
     |cons x l ih=>
      intro s v
      obtain⟨h1,h2,h3⟩:=ih (s.dD x) (ZY v x).1
      have hx:(∀a,((s.dD x).o.aH a).isSome=true->(s.o.aH a).isSome=true)/\ (s.dD x).ws=s.ws/\ (s.dD x).parity=s.parity:=by
       unfold af.dD
       split
       ·exact⟨fun a h=>h,rfl,rfl⟩
       ·exact⟨fun a h=>(Qj v x).some h,rfl,rfl⟩
      exact⟨fun a h=>hx.1 a (h1 a h),h2.trans hx.2.1,h3.trans hx.2.2⟩
    obtain⟨k1,k2,k3⟩:=key (s.dJ n) s G.inv.lay.ov
    refine⟨K,fun _ h=>h,A,B,fun E a ha hpa=> ?_,fun _=> ?_⟩
    ·have e:(s.ni n).o.aH a=(eH (s.dJ n) s).o.aH a:=xe (Cm _ n) b2 a
     rw[e]at ha
     have hpa:(ag (eH (s.dJ n) s).ws a).parity=(eH (s.dJ n) s).parity:=hpa
     rw[k2,k3]at hpa
     exact E a (k1 a ha) hpa
    ·unfold phi
     rw[if_neg (by show¬(s.ni n).phase=1;rw[C];decide),if_pos C,if_neg (by omega),if_pos h2]
     obtain⟨_,f2⟩:=aa2 (show firstT (s.o.pages.map (·.pending)) 0=some n from hq)
     rw[Nat.sub_zero,List.getElem?_map]at f2
     obtain⟨g,f3,f4⟩:=Option.map_eq_some_iff.1 f2
     have hd: ∀(k:Nat) (g':bC),(s.ni n).o.pages[k]? =some g'->g'.pending=true->k≠n/\ (eH (s.dJ n) s).o.pages[k]? =some g':=by
      intro k g' h1 h2
      have h1:((eH (s.dJ n) s).o.uS n).pages[k]? =some g':=h1
      unfold aP.uS at h1
      split at h1
      ·rename_i gx hgx
       have h1:((eH (s.dJ n) s).o.pages.set n {gx with pending:=false})[k]? =some g':=h1
       rw[List.getElem?_set]at h1
       split at h1
       ·split at h1
        ·cases h1;cases h2
        ·cases h1
       ·rename_i e
        exact⟨fun h=>e h.symm,h1⟩
      ·rename_i hno
       refine⟨fun e=> ?_,h1⟩
       rw[e]at h1
       rw[h1]at hno
       cases hno
     refine ab5 (k:=n) ?_ (fun k g' h1 h2=>b4 k g' (hd k g' h1 h2).2 h2) ⟨g,f3,f4⟩ (fun g' h1=> ?_)
     ·have:(s.ni n).o.pages.length=(eH (s.dJ n) s).o.pages.length:=(Cm _ n).2.2.1
      rw[this,b3]
     ·cases hb:g'.pending
      ·rfl
      ·exact absurd rfl (hd n g' h1 hb).1
theorem aaU{s:af}(G:Good s cur az N hs K loc)(M:jA s cur az N hs K loc Dc (dG s))(E:Exact s K loc){m:Nat}(hm: ∀n,K n->0<n/\n<m){P:Nat}(hP:s.C.pages=P):
  ∃K':Int->Prop,(∀n,K' n->K n)/\Good s.fC cur az N hs K' loc/\jA s.fC cur az N hs K' loc Dc (dG s.fC)/\Exact s.fC K' loc/\ (s.yV=true->phi s.fC K' loc m P+1<=phi s K loc m P):=by
 obtain⟨K',h1,h2,h3,h4,h5⟩:=aac G M hm hP
 exact⟨K',h1,h2,h3,h4 E,h5⟩
theorem aad{s:af}(G:Good s cur az N hs K loc)(M:jA s cur az N hs K loc Dc (dG s)){m:Nat}(hm: ∀n,K n->0<n/\n<m){P:Nat}(hP:s.C.pages=P):
  ∃K':Int->Prop,(∀n,K' n->K n)/\Good s.fC cur az N hs K' loc/\jA s.fC cur az N hs K' loc Dc (dG s.fC)/\ (s.yV=true->phi s.fC K' loc m P+1<=phi s K loc m P):=by
 obtain⟨K',h1,h2,h3,h4,h5⟩:=aac G M hm hP
 exact⟨K',h1,h2,h3,h5⟩
end
end Go.Proofs.YtibemcgdmembeaaGreat
namespace Go.Proofs.YtibemcgdmembeaaGreat
open Go.RowKit
section
variable{s:af}{c:gX}{cur az:List Int}{N:Int->dB}{hs:List Int}{K:Int->Prop}{loc:Int->Int}{m:Int}
theorem ab6(G:Good s cur [] N hs K loc)(m:Nat):(Zp s K loc m:Int)<=s.C.aU+s.C.pages*s.C.page:=by
 obtain⟨n1,n2,n3,n4,n5,n6,n7,n8,n9,n10⟩:=G.inv.lay.nums
 unfold Zp
 rw[List.countP_eq_length_filter]
 generalize hl:(List.range m).filter _=l
 have hK: ∀k∈l,K ((k:Nat):Int):=by
  intro k hk
  rw[<-hl]at hk
  have:=(List.mem_filter.1 hk).2
  simp only[decide_eq_true_eq]at this
  exact this.1
 have hn:l.Nodup:=by
  rw[<-hl]
  exact List.Pairwise.filter _ List.nodup_range
 have hin: ∀k∈l,(loc (k:Int)∈cur/\s.y.cf<=loc (k:Int)/\loc (k:Int)<s.y.cf+s.C.aU)∨((s.o.aH (loc (k:Int))).isSome=true/\1+2*s.C.aU<=loc (k:Int)/\loc (k:Int)<1+2*s.C.aU+s.C.pages*s.C.page):=by
  intro k hk
  have hb:=aA s.ws (loc (k:Int))
  rcases G.rep.pl _ (hK k hk)with h|h|h
  ·have:=G.inv.lay.lT h
   exact .inl ⟨h,by omega,by omega⟩
  ·have:=G.inv.lay.qp h
   exact .inr ⟨h,by omega,by omega⟩
  ·cases h.1
 have hnd:(l.map fun(k:Nat)=>if loc (k:Int)<1+2*s.C.aU then loc (k:Int)-s.y.cf else loc (k:Int)-(1+2*s.C.aU)+s.C.aU).Nodup:=by
  refine aaJ (fun a ha b hb e=> ?_) hn
  have h1:=hin a ha
  have h2:=hin b hb
  have:loc (a:Int)=loc (b:Int):=by
   split at e<;>split at e<;>omega
  have:=G.rep.inj _ _ (hK a ha) (hK b hb) this
  omega
 have:=wW (n:=(s.C.aU+s.C.pages*s.C.page).toNat) hnd (fun x hx=>by
  obtain⟨k,hk,rfl⟩:=List.mem_map.1 hx
  have h1:=hin k hk
  split<;>omega)
 rw[List.length_map]at this
 omega
theorem aaK{m P:Nat}: ∀(f:Nat) {s:af} {K:Int->Prop} (_:Good s cur az N hs K loc) (_:jA s cur az N hs K loc Dc (dG s)) (_:Exact s K loc) (_: ∀n,K n->0<n/\n<m) (_:s.C.pages=P) (_:phi s K loc m P<=f),
  ∃n:Nat,n<=f/\ (∀k,k<n->(s.Zm k).yV=true)/\ (s.Zm n).yV=false/\ ∃K':Int->Prop,(∀x,K' x->K x)/\Good (s.Zm (n+1)) cur az N hs K' loc/\jA (s.Zm (n+1)) cur az N hs K' loc Dc (dG (s.Zm (n+1)))/\Exact (s.Zm (n+1)) K' loc
 |f,s,K,G,M,E,hm,hP,hf=>by
  obtain⟨K1,k1,G1,M1,E1,p1⟩:=aaU G M E hm hP
  cases hb:s.yV with
  |false=>exact⟨0,by omega,fun k hk=>by omega,hb,K1,k1,G1,M1,E1⟩
  |true=>
   have:=p1 hb
   cases f with
   |zero=>omega
   |succ f=>
    obtain⟨n,n1,n2,n3,K2,k2,G2,M2,E2⟩:=aaK f G1 M1 E1 (fun n hn=>hm n (k1 n hn)) (by rw[(CE s).1];exact hP) (by omega)
    refine⟨n+1,by omega, ?_,by rw[Zn];exact n3,K2,fun x hx=>k1 x (k2 x hx),by rw[Zn];exact G2,by rw[Zn];exact M2,by rw[Zn];exact E2⟩
    intro k hk
    cases k with
    |zero=>exact hb
    |succ k=>rw[Zn];exact n2 k (by omega)
theorem aae(s:af)(hp:s.phase=0∨s.phase=1∨s.phase=2):(s.yV=true->s.phase≠0/\s.fC.phase≠0/\s.fC.done=s.done)/\ (s.yV=false->s.fC.phase=0/\s.fC.done=if s.phase=0 then s.done else {s.done with qP:=wrap64 (s.done.qP+1)}):=by
 unfold af.yV af.fC
 by_cases h0:s.phase=0
 ·simp only[if_pos h0]
  exact⟨fun h=>(by cases h),fun _=>⟨h0,by first|trivial|rfl⟩⟩
 ·simp only[if_neg h0]
  by_cases h1:s.phase=1
  ·simp only[if_pos h1]
   refine⟨fun _=>⟨h0, ?_⟩,fun h=>by cases h⟩
   unfold af.wu
   split
   ·have A:=uU s.vT (s.now s.g.j_)
    exact⟨by rw[A.phase];exact h0,A.done⟩
   ·split
    ·have A:=wZ s.dO s
     exact⟨by show(nK s.dO s).phase≠0;rw[A.phase];exact h0,A.done⟩
    ·split
     ·have A:mO s.jV s.uT:=(tC _ _ _ _).trans (tC _ _ _ _)
      exact⟨by rw[A.phase];exact h0,A.done⟩
     ·exact⟨by show(2:Int)≠0;decide,rfl⟩
  ·simp only[if_neg h1]
   have h2:s.phase=2:=by omega
   unfold af.qQ
   have key: ∀(l:List Int) (s:af),(eH l s).phase=s.phase/\ (eH l s).done=s.done:=by
    intro l
    induction l with
    |nil=>intro s;exact⟨rfl,rfl⟩
    |cons a l ih=>
     intro s
     have:(s.dD a).phase=s.phase/\ (s.dD a).done=s.done:=by
      unfold af.dD
      split<;>exact⟨rfl,rfl⟩
     exact⟨(ih _).1.trans this.1,(ih _).2.trans this.2⟩
   cases hq:s.o.qA with
   |none=>exact⟨fun h=>(by cases h),fun _=>⟨rfl,by first|rfl|(rw[if_neg (by simp)];rfl)⟩⟩
   |some n=>
    refine⟨fun _=>⟨h0, ?_⟩,fun h=>by cases h⟩
    obtain⟨k1,k2⟩:=key (s.dJ n) s
    exact⟨by show(eH (s.dJ n) s).phase≠0;rw[k1];exact h0,k2⟩
theorem Zz(s:af): ∀k,(s.Zm k).C=s.C/\ (s.Zm k).aG=s.aG/\ (s.Zm k).t=s.t/\ (s.Zm k).y=s.y
 |0=>⟨rfl,rfl,rfl,rfl⟩
 |k+1=>by
  obtain⟨a1,a2,a3,a4⟩:=Zz s k
  obtain⟨b1,_,_,b2,b3,b4⟩:=CE (s.Zm k)
  exact⟨b1.trans a1,b2.trans a2,b3.trans a3,b4.trans a4⟩
theorem dM.ph(T:dM s c N hs m):s.phase=0∨s.phase=1∨s.phase=2:=by
 obtain⟨cur,az,K,loc,G,M,_⟩:=T.ex
 exact M.ph
theorem ZN(T:dM s c N hs m){n:Nat}(E:ZC s n):(s.Zm (n+1)).phase=0/\ (s.Zm (n+1)).done=(if s.phase=0 then s.done else {s.done with qP:=wrap64 (s.done.qP+1)})/\ (s.phase=0->n=0/\s.Zm (n+1)=s):=by
 have h0:s.phase=0->n=0/\s.Zm (n+1)=s:=by
  intro h0
  have hb:s.yV=false:=by unfold af.yV;rw[if_pos h0]
  have e:n=0:=by
   cases n with
   |zero=>rfl
   |succ n=>
    have:=E.on 0 (by omega)
    rw[show s.Zm 0=s from rfl,hb]at this
    cases this
  subst e
  exact⟨rfl,by show s.fC=s;unfold af.fC;rw[if_pos h0]⟩
 have key: ∀k,k<=n->(s.Zm k).done=s.done/\ (s.phase≠0->(s.Zm k).phase≠0):=by
  intro k
  induction k with
  |zero=>exact fun _=>⟨rfl,id⟩
  |succ k ih=>
   intro hk
   obtain⟨i1,i2⟩:=ih (by omega)
   obtain⟨_,r2,r3⟩:=(aae _ (T.Zm k).ph).1 (E.on k (by omega))
   exact⟨r3.trans i1,fun _=>r2⟩
 obtain⟨r1,r2⟩:=(aae _ (T.Zm n).ph).2 E.off
 obtain⟨k1,k2⟩:=key n (Nat.le_refl _)
 refine⟨r1, ?_,h0⟩
 show(s.Zm n).fC.done=_
 rw[r2,k1]
 by_cases hz:s.phase=0
 ·have:=(h0 hz).1
  subst this
  rw[if_pos hz,if_pos (show(s.Zm 0).phase=0 from hz)]
 ·rw[if_neg hz,if_neg (k2 hz)]
theorem Z5(T:dM s c N hs m)(hmv:s.aG=false): ∃n:Nat,ZC s n/\ (n:Int)<=c.stack+(c.aU+c.pages*c.page)*(c.pages+3)+3*c.pages+8:=by
 obtain⟨cur,az,K,loc,G,M,hk⟩:=T.ex
 have ho:=G.inv.hds.nm hmv
 subst ho
 have hf:=T.fits
 have hm0:=T.m0
 obtain⟨n1,n2,n3,n4,n5,n6,n7,n8,n9,n10⟩:=G.inv.lay.nums
 rw[T.cf]at n1 n2 n3 n4
 have hW:=ab6 G m.toNat
 rw[T.cf]at hW
 have hgl:=T.gl
 rw[T.adC]at hgl
 have hp1:=hf.p1
 have hlk:=G.inv.lay.ol
 have hphi:(phi s K loc m.toNat c.pages.toNat:Int)<=c.stack+(c.aU+c.pages*c.page)*(c.pages+3)+3*c.pages+8:=by
  have hmul:(Zp s K loc m.toNat:Int)*(c.pages+3)<=(c.aU+c.pages*c.page)*(c.pages+3):=Int.mul_le_mul_of_nonneg_right hW (by omega)
  have hmul0:0<=(Zp s K loc m.toNat:Int)*(c.pages+3):=Int.mul_nonneg (by omega) (by omega)
  have hs1:=hf.s1
  unfold phi
  split
  ·unfold ZQ abB
   have e:((Zp s K loc m.toNat*(c.pages.toNat+3):Nat):Int)=(Zp s K loc m.toNat:Int)*(c.pages+3):=by
    rw[Int.natCast_mul]
    congr 1
    omega
   split<;>split<;>omega
  ·split
   ·have:=abC s.o
    rw[T.cf]at hlk
    omega
   ·omega
 have key: ∀(f:Nat) {s:af} {K:Int->Prop} (_:Good s cur [] N hs K loc) (_:jA s cur [] N hs K loc Dc (dG s)) (_: ∀n,K n->0<n/\n<m.toNat) (_:s.C.pages=c.pages.toNat) (_:phi s K loc m.toNat c.pages.toNat<=f),
   ∃n:Nat,n<=f/\ (∀k,k<n->(s.Zm k).yV=true)/\ (s.Zm n).yV=false:=by
  intro f
  induction f with
  |zero=>
   intro s K G M hm hP hq
   obtain⟨K1,k1,G1,M1,p1⟩:=aad G M hm hP
   cases hb:s.yV with
   |false=>exact⟨0,by omega,fun k hk=>by omega,hb⟩
   |true=>have:=p1 hb;omega
  |succ f ih=>
   intro s K G M hm hP hq
   obtain⟨K1,k1,G1,M1,p1⟩:=aad G M hm hP
   cases hb:s.yV with
   |false=>exact⟨0,by omega,fun k hk=>by omega,hb⟩
   |true=>
    have:=p1 hb
    obtain⟨n,n1,n2,n3⟩:=ih G1 M1 (fun n hn=>hm n (k1 n hn)) (by rw[(CE s).1];exact hP) (by omega)
    refine⟨n+1,by omega, ?_,by rw[Zn];exact n3⟩
    intro k hk
    cases k with
    |zero=>exact hb
    |succ k=>rw[Zn];exact n2 k (by omega)
 obtain⟨n,q1,q2,q3⟩:=key _ G M (fun n hn=>by have:=hk n hn;omega) (by rw[T.cf];omega) (Nat.le_refl _)
 have hsm:(c.aU+c.pages*c.page)*(c.pages+3)<=(4096+16384)*67:=by
  have:=hf.p2
  exact Int.mul_le_mul (by omega) (by omega) (by omega) (by omega)
 have:=hf.s2
 have:=hf.p2
 exact⟨n,⟨q2,q3,by omega⟩,by omega⟩
end
end Go.Proofs.YtibemcgdmembeaaGreat
namespace Go.Proofs.YtibemcgdmembeaaGreat
open Go.RowKit
inductive Reach(N:Int->dB)(hs:List Int):Int->Prop
 |hd {n:Int}:n∈hs->n≠0->Reach N hs n
 |ref {n x:Int}:Reach N hs n->x∈(N n).ptrs->x≠0->Reach N hs x
section
variable{s:af}{c:gX}{cur az:List Int}{N:Int->dB}{hs:List Int}{K:Int->Prop}{loc:Int->Int}{m:Int}
theorem Good.ZI(G:Good s cur az N hs K loc){n:Int}(h:Reach N hs n):K n:=by
 induction h with
 |hd h h0=>exact(G.rep.hk _ h).resolve_left h0
 |ref _ hx h0 ih=>exact(G.rep.pk _ ih _ hx).resolve_left h0
theorem Good.reach(G:Good s cur az N hs K loc):Good s cur az N hs (Reach N hs) loc:=
 ⟨G.inv,G.hdl,G.rep.less (fun n h=>G.ZI h) (fun x hx=>by
  by_cases e:x=0
  ·exact .inl e
  ·exact .inr (.hd hx e)) (fun n hn x hx=>by
  by_cases e:x=0
  ·exact .inl e
  ·exact .inr (.ref hn hx e))⟩
theorem jA.reach(M:jA s cur az N hs K loc Dc (dG s))(G:Good s cur az N hs K loc)(h1:s.phase≠1):jA s cur az N hs (Reach N hs) loc Dc (dG s):=
 ⟨M.ph,fun h n hn=>M.par h n (G.ZI hn),fun h=>absurd h h1,fun h=>absurd h h1,fun a ha hg=>absurd (M.gr a ha hg).1 h1,fun n hn hg=>absurd (M.gr _ (G.rep.pl n (G.ZI hn)) hg).1 h1,fun x hx=>(by
  rw[(M.rest h1).1]at hx
  cases hx),M.rest⟩
theorem acI{ms:List Int}{x y:Int}:y∈qU ms x↔y∈ms∨(y=x/\x≠0):=by
 unfold qU
 split
 ·rename_i h
  constructor
  ·exact .inl
  ·rintro(h1|⟨rfl,h1⟩)
   ·exact h1
   ·exact h.resolve_left h1
 ·rename_i h
  rw[List.mem_append,List.mem_singleton]
  constructor
  ·rintro(h1|h1)
   ·exact .inl h1
   ·exact .inr ⟨h1,fun e=>h (.inl e)⟩
  ·rintro(h1|⟨h1,_⟩)
   ·exact .inl h1
   ·exact .inr h1
theorem aaj: ∀{l ms:List Int} {y:Int},y∈mP ms l↔y∈ms∨(y∈l/\y≠0)
 |[],ms,y=>by simp[mP]
 |x::l,ms,y=>by
  have e:mP ms (x::l)=mP (qU ms x) l:=rfl
  rw[e,aaj,acI,List.mem_cons]
  constructor
  ·rintro((h|⟨rfl,h⟩)|⟨h,h0⟩)
   ·exact .inl h
   ·exact .inr ⟨.inl rfl,h⟩
   ·exact .inr ⟨.inr h,h0⟩
  ·rintro(h|⟨rfl|h,h0⟩)
   ·exact .inl (.inl h)
   ·exact .inl (.inr ⟨rfl,h0⟩)
   ·exact .inr ⟨h,h0⟩
theorem acJ(ms:List Int)(x:Int):ms<+:qU ms x:=by
 unfold qU
 split
 ·exact List.prefix_refl _
 ·exact List.prefix_append _ _
theorem aak: ∀(l ms:List Int),ms<+:mP ms l
 |[],ms=>List.prefix_refl _
 |x::l,ms=>(acJ ms x).trans (aak l (qU ms x))
theorem aal(r:Int->List Int): ∀(f n:Nat) (ms:List Int),ms<+:qE r f n ms
 |0,_,_=>List.prefix_refl _
 |f+1,n,ms=>by
  cases hn:ms[n]? with
  |none=>rw[qE,hn];exact List.prefix_refl _
  |some a=>rw[qE,hn];exact(aak (r a) ms).trans (aal r f (n+1) (mP ms (r a)))
theorem aaf(r:Int->List Int): ∀(f n:Nat) (ms:List Int),(qE r f n ms).length<=n+f-> ∀(i:Nat) (a:Int),n<=i->(qE r f n ms)[i]? =some a-> ∀x∈r a,x≠0->x∈qE r f n ms
 |0,n,ms,h,i,a,hi,ha=>by
  have:=(List.getElem?_eq_some_iff.1 ha).1
  omega
 |f+1,n,ms,h,i,a,hi,ha=>by
  intro x hx h0
  have e: ∀b,ms[n]? =some b->qE r (f+1) n ms=qE r f (n+1) (mP ms (r b)):=fun b hb=>by
   rw[qE,hb]
  cases hn:ms[n]? with
  |none=>
   have e0:qE r (f+1) n ms=ms:=by rw[qE,hn]
   rw[e0]at ha
   have h1:=(List.getElem?_eq_some_iff.1 ha).1
   have h2:=List.getElem?_eq_none_iff.1 hn
   omega
  |some b=>
   rw[e b hn]at h ha⊢
   by_cases hi2:i=n
   ·subst hi2
    have hp:=aal r f (i+1) (mP ms (r b))
    have hp2:=(aak (r b) ms).trans hp
    have hl:=(List.getElem?_eq_some_iff.1 hn).1
    have:(qE r f (i+1) (mP ms (r b)))[i]? =some b:=by
     obtain⟨t,ht⟩:=hp2
     rw[<-ht,List.getElem?_append_left hl]
     exact hn
    rw[this]at ha
    cases ha
    exact hp.subset (aaj.2 (.inr ⟨hx,h0⟩))
   ·exact aaf r f (n+1) _ (by omega) i a (by omega) ha x hx h0
theorem acK{F:Nat}(hK: ∀n∈IL N hs F,0<n/\n<(F:Int))(hn:(IL N hs F).Nodup){n:Int}(h:Reach N hs n):n∈IL N hs F:=by
 have hl:(IL N hs F).length<=0+F:=by
  have:=wW (n:=F) hn (fun x hx=>by have:=hK x hx;omega)
  omega
 induction h with
 |hd h h0=>exact(aal _ _ _ _).subset (aaj.2 (.inr ⟨h,h0⟩))
 |ref _ hx h0 ih=>
  obtain⟨i,hi,e⟩:=List.getElem_of_mem ih
  exact aaf _ F 0 _ hl i _ (Nat.zero_le _) (show(IL N hs F)[i]? =_ by rw[List.getElem?_eq_getElem hi,e]) _ hx h0
def aaL(d d':Pn):Prop:=d'.oN=d.oN/\d'.words=d.words/\d'.qP=d.qP/\d'.minors=d.minors
theorem NH.done{s s':af}{cur cur':List Int}{loc loc':Int->Int}(x:NH az N hs K s cur loc s' cur' loc'):aaL s.done s'.done:=by
 cases x with
 | @mv a _ M ha hw hsrc MT hmono hT=>
  have e:(s.moved a).done=if s.lD a then {s.done with promoted:=wrap64 (s.done.promoted+(ag s.ws a).words)}else s.done:=rfl
  rw[e]
  split<;>exact⟨rfl,rfl,rfl,rfl⟩
 |ref M ha k0 k1 hT hn=>exact⟨rfl,rfl,rfl,rfl⟩
 | @note a M ha=>
  rw[(jm s a).2.2.2.2.2.2.2.2.2.2.2.2]
  exact⟨rfl,rfl,rfl,rfl⟩
 |dL M ha=>exact⟨rfl,rfl,rfl,rfl⟩
 |other M h1 h2 h3 h4 h5 h6 h7 h8 h9 h10 h11 h12=>rw[h12];exact⟨rfl,rfl,rfl,rfl⟩
 |hdl M h1 h2=>exact⟨rfl,rfl,rfl,rfl⟩
theorem lK.done{s s':af}{cur cur':List Int}{loc loc':Int->Int}(x:lK az N hs K s cur loc s' cur' loc'):aaL s.done s'.done:=by
 induction x with
 |refl=>exact⟨rfl,rfl,rfl,rfl⟩
 |more _ y ih=>
  obtain⟨a1,a2,a3,a4⟩:=ih
  obtain⟨b1,b2,b3,b4⟩:=y.done
  exact⟨b1.trans a1,b2.trans a2,b3.trans a3,b4.trans a4⟩
theorem abe(T:dM s c N hs m):s.eG.phase=s.phase/\s.eG.done.oN=s.done.oN/\s.eG.done.words=s.done.words/\s.eG.done.qP=s.done.qP:=by
 obtain⟨cur,az,K,loc,G,M,h⟩:=T.ex
 cases hmv:s.aG with
 |false=>
  rw[(ab2 hmv).1]
  exact⟨rfl,rfl,rfl,rfl⟩
 |true=>
  rcases Qa G hmv with⟨_,c1,l1,G1,C⟩|⟨_,e,_⟩
  ·obtain⟨a1,a2,a3,a4⟩:=C.done
   exact⟨C.others.2.2.2.1,a1,a2,a3⟩
  ·rw[e]
   exact⟨rfl,rfl,rfl,rfl⟩
theorem ZG(T:dM s c N hs m): ∀k,(s.Zl k).phase=s.phase/\ (s.Zl k).done.oN=s.done.oN/\ (s.Zl k).done.words=s.done.words/\ (s.Zl k).done.qP=s.done.qP
 |0=>⟨rfl,rfl,rfl,rfl⟩
 |k+1=>by
  obtain⟨a1,a2,a3,a4⟩:=ZG T k
  obtain⟨b1,b2,b3,b4⟩:=abe (T.Zl k)
  exact⟨b1.trans a1,b2.trans a2,b3.trans a3,b4.trans a4⟩
theorem Z4(T:dM s c N hs m): ∃n:Nat,ZK s n/\ (s.aG=false->n=0)/\2*(n:Int)<=7*c.aU+2*(c.buffer+c.pages*c.page)+6/\ (s.aG=true->(s.Zl n).done.minors=wrap64 (s.done.minors+1)/\ (s.Zl n).y.cu<=s.y.cu+s.y.ou):=by
 obtain⟨cur,az,I,_⟩:=T.inv
 have hf:=T.fits
 obtain⟨n1,n2,n3,n4,n5,n6,n7,n8,n9,n10⟩:=I.lay.nums
 rw[T.cf]at n1 n2 n3 n4
 have h2:=I.rem.tc.2.2.2
 have h4:=I.rem.bm.2.2.2
 rw[T.cf]at h2 h4
 have h3:=aaH (words:=c.pages*c.page) (card:=c.card) (by omega) hf.c1
 obtain⟨n,m1,m2,m3,m4,m5⟩:=abd (s.todo.toNat+1) I (fun hmv=>by have:=(Zu I hmv).1;omega)
 cases hmv:s.aG with
 |false=>
  have e:=m5 hmv
  subst e
  exact⟨0,⟨m2,m3,by omega⟩,fun _=>rfl,by have:=hf.b1;omega,fun h=>(by cases h)⟩
 |true=>
  have h1:=(Zu I hmv).2
  rw[T.cf]at h1
  obtain⟨k1,k2⟩:=m4 hmv
  have hb:=hf.b2
  refine⟨n,⟨m2,m3,by omega⟩,fun h=>(by cases h),by omega,fun _=>⟨k2, ?_⟩⟩
  have hgl:=rP I.lay.ro
  have hcp:=I.hds.cp
  have hrl:=I.hds.rl
  unfold af.meas at k1
  omega
theorem abP(T:dM s c N hs m)(hmv:s.aG=false):s.eY.aG=true/\s.eY.phase=s.phase/\aaL s.done s.eY.done/\s.jh=true:=by
 obtain⟨cur,az,K,loc,G,M,h⟩:=T.ex
 obtain⟨_,c1,o1,J,H1,_,_,e1,_,e2⟩:=Ee G.inv G.hdl
 obtain⟨_,e3,_,_,c2,l2,G2,C⟩:=NI G hmv
 exact⟨e2,e1,C.done,e3⟩
theorem aaX(T:dM s c N hs m): ∃a b d f:Nat,ZJ s a b d f/\ (s.aG=false->a=0)/\2*(a:Int)<=7*c.aU+2*(c.buffer+c.pages*c.page)+6/\ (b:Int)<=c.stack+(c.aU+c.pages*c.page)*(c.pages+3)+3*c.pages+8/\1<=f/\
  (s.Zy a b d f).aG=false/\ (s.Zy a b d f).phase=0/\
  (s.Zy a b d f).done.oN=s.done.oN/\ (s.Zy a b d f).done.words=s.done.words/\
  (s.Zy a b d f).done.minors=wrap64 ((if s.aG then wrap64 (s.done.minors+1)else s.done.minors)+1)/\ (s.Zy a b d f).done.qP=wrap64 ((if s.phase=0 then s.done.qP else wrap64 (s.done.qP+1))+1)/\
  ∃cur K loc,Good (s.Zy a b d f) cur [] N hs K loc/\ZO K (s.Zy a b d f) cur loc/\ (∀n,K n->Reach N hs n):=by
 have hf:=T.fits
 obtain⟨a,EA,a0,adB,aM⟩:=Z4 T
 have T1:=T.Zl a
 obtain⟨p1,q1,r1,t1⟩:=ZG T a
 obtain⟨b,EB,bB⟩:=Z5 T1 EA.off
 have T2:dM (s.fin a b) c N hs m:=T1.Zm (b+1)
 obtain⟨p2,q2,_⟩:=ZN T1 EB
 have p2:(s.fin a b).phase=0:=p2
 have q2:(s.fin a b).done=_:=q2
 obtain⟨_,v2,_,_⟩:=Zz (s.Zl a) (b+1)
 have v2:(s.fin a b).aG=false:=v2.trans EA.off
 generalize hs2:s.fin a b=s2 at*
 obtain⟨cur,az,K0,loc,G0,M0,hk0⟩:=T2.ex
 have ho:=G0.inv.hds.nm v2
 subst ho
 have G2:=G0.reach
 have M2:=M0.reach G0 (by omega)
 have hk2: ∀n,Reach N hs n->0<n/\n<m:=fun n hn=>hk0 n (G0.ZI hn)
 obtain⟨G3,M3,v3,C3⟩:=Ik G2 M2
 have ok2:s2.um=true:=by unfold af.um;rw[p2];rfl
 have hpar:=G2.inv.hds.par
 have E2:Exact s2.gB (Reach N hs) loc:=by
  intro x hx hp
  have h1:=T2.od.par (by omega) x hx (T2.od.np (by omega) x)
  have h2:(ag s2.ws x).parity=1-s2.parity:=hp
  omega
 have E3:=(C3 ok2).exact E2
 have T3:=T2.dF
 obtain⟨d3,_,_,m3,_⟩:=z_ s2
 have v3':s2.dF.aG=false:=v3.trans v2
 have ph3:s2.dF.phase=1:=(C3 ok2).same.phase
 have dn3:s2.dF.done=s2.done:=(C3 ok2).same.done
 obtain⟨dd,adG,_⟩:=Z5 T3 v3'
 have hm0:=T.m0
 obtain⟨d,_,d1,d2,K',k',G4,M4,E4⟩:=aaK (m:=m.toNat) (P:=c.pages.toNat) _ G3 M3 E3 (fun n hn=>by have:=hk2 n hn;omega) (by rw[T3.cf];have:=hf.p1;omega) (Nat.le_refl _)
 have hdd:d=dd:=by
  rcases Nat.lt_trichotomy d dd with h|h|h
  ·have:=adG.on d h
   rw[d2]at this
   cases this
  ·exact h
  ·have:=d1 dd h
   rw[adG.off]at this
   cases this
 have ED':ZC s2.dF d:=by rw[hdd];exact adG
 have T4:=T3.Zm (d+1)
 obtain⟨p4,q4,_⟩:=ZN T3 ED'
 rw[if_neg (by rw[ph3];decide),dn3]at q4
 obtain⟨_,v4,_,_⟩:=Zz s2.dF (d+1)
 have v4':(s2.dF.Zm (d+1)).aG=false:=v4.trans v3'
 generalize hs4:s2.dF.Zm (d+1)=s4 at*
 have adH: ∀x,(s4.o.aH x).isSome=true-> ∃n,K' n/\loc n=x:=fun x hx=>E4 x hx (T4.od.par (by omega) x hx (T4.od.np (by omega) x))
 obtain⟨_,ok5,_,R5,c5,l5,adI,C5⟩:=NI G4 v4'
 have Ti5:ZO K' s4.eY c5 l5:=lK.keep (P:=fun s c l=>ZO K' s c l) (fun m=>m.tight) C5 (fun x hx=>by
  rcases hx with h|h
  ·cases h
  ·exact adH x h)
 have T5:=T4.eY
 obtain⟨v5,p5,⟨b1,b2,b3,b4⟩,_⟩:=abP T4 v4'
 obtain⟨f,adJ,_,_,adK⟩:=Z4 T5
 obtain⟨p6,q6,r6,t6⟩:=ZG T5 f
 have hfull:s.Zy a b d f=s4.eY.Zl f:=by
  unfold af.Zy
  rw[hs2,hs4]
 have hf1:1<=f:=by
  cases f with
  |zero=>
   have:=adJ.off
   rw[show s4.eY.Zl 0=s4.eY from rfl,v5]at this
   cases this
  |succ f=>omega
 have hmi:(if s.aG then wrap64 (s.done.minors+1)else s.done.minors)=(s.Zl a).done.minors:=by
  cases hmv:s.aG with
  |true=>rw[if_pos rfl];exact(aM hmv).1.symm
  |false=>
   rw[if_neg (by decide),a0 hmv]
   rfl
 have hma:(if s.phase=0 then s.done.qP else wrap64 (s.done.qP+1))=s2.done.qP:=by
  rw[q2,p1]
  split
  ·exact t1.symm
  ·show wrap64 (s.done.qP+1)=wrap64 ((s.Zl a).done.qP+1)
   rw[t1]
 have hq2:s2.done.oN=s.done.oN/\s2.done.words=s.done.words/\s2.done.minors=(s.Zl a).done.minors:=by
  rw[q2]
  split
  ·exact⟨q1,r1,rfl⟩
  ·exact⟨q1,r1,rfl⟩
 refine⟨a,b,d,f,⟨EA,EB,by rw[hs2];exact ED',by rw[hs2,hs4];exact adJ⟩,a0,adB,bB,hf1, ?_⟩
 rw[hfull]
 refine⟨adJ.off,by rw[p6,p5];exact p4, ?_, ?_, ?_, ?_, ?_⟩
 ·rw[q6,b1,q4]
  exact hq2.1
 ·rw[r6,b2,q4]
  exact hq2.2.1
 ·rw[(adK v5).1,b4,q4,hmi,<-hq2.2.2]
 ·rw[t6,b3,q4,hma]
 ·rcases aar (o0:=s4.eY.o) f adI Ti5 adJ.on with⟨h,_⟩|⟨_,h⟩
  ·rw[adJ.off]at h
   cases h
  ·obtain⟨c6,K6,l6,adL,Ti6,k6,_⟩:=h v5
   exact⟨c6,K6,l6,adL,Ti6,fun n hn=>k' n (k6 n hn)⟩
end
end Go.Proofs.YtibemcgdmembeaaGreat
namespace Go.Proofs.YtibemcgdmembeaaGreat
open Go.RowKit
def aP.allL(s:aP):Nat->List Int
 |0=>[]
 |k+1=>s.allL k++(match s.pages[k]? with|some g=>s.iE k g|none=>[])
theorem aaM(b size:Int)(hs:1<=size): ∀(l:List Bool) (k:Nat),(∀x∈fA b size l k,b+(k:Int)*size<=x)/\ (fA b size l k).Nodup
 |[],k=>⟨by simp[fA],by simp[fA]⟩
 |u::l,k=>by
  obtain⟨h1,h2⟩:=aaM b size hs l (k+1)
  have e:b+((k+1:Nat):Int)*size=b+(k:Int)*size+size:=by
   rw[Int.natCast_add,Int.add_mul]
   simp
   omega
  have h3: ∀x∈fA b size l (k+1),b+(k:Int)*size<x:=fun x hx=>by
   have:=h1 x hx
   omega
  unfold fA
  cases u
  ·simp only[Bool.false_eq_true,if_false,List.nil_append]
   exact⟨fun x hx=>by have:=h3 x hx;omega,h2⟩
  ·simp only[if_true,List.cons_append,List.nil_append]
   refine⟨fun x hx=> ?_,List.nodup_cons.2 ⟨fun hx=> ?_,h2⟩⟩
   ·rcases List.mem_cons.1 hx with rfl|hx
    ·exact Int.le_refl _
    ·have:=h3 x hx
     omega
   ·have:=h3 _ hx
    omega
theorem ZR{s:aP}(v:s.V){n:Nat}{g:bC}(hg:s.pages[n]? =some g):(∀x∈s.iE n g,s.begin n<=x/\x<s.begin n+s.words/\ (s.aH x).isSome=true)/\ (s.iE n g).Nodup:=by
 have w16:=v.w16
 constructor
 ·intro x hx
  rcases(sJ v hg).1 hx with⟨k,e⟩|⟨k,j,hj,e⟩
  ·refine⟨by omega,by omega, ?_⟩
   rw[(cZ v).2 ⟨n,g,hg, .inl ⟨k,e,rfl⟩⟩]
   rfl
  ·obtain⟨z1,z2,z3,z4⟩:=v.blk n g hg k
   have hkl:j<g.used.length:=(List.getElem?_eq_some_iff.1 hj).1
   obtain⟨c1,c2⟩:=qj (z:=g.size) (w:=s.words) (k:=j) (by omega) (by omega) (by omega)
   refine⟨by omega,by omega, ?_⟩
   rw[(cZ v).2 ⟨n,g,hg, .inr ⟨k,rfl,j,hj,e⟩⟩]
   rfl
 ·unfold aP.iE
  by_cases k2:g.kind=2
  ·rw[if_pos k2]
   simp
  ·rw[if_neg k2]
   by_cases k1:g.kind=1
   ·obtain⟨z1,z2,z3,z4⟩:=v.blk n g hg k1
    exact(aaM _ _ (by omega) g.used 0).2
   ·rw[v.az n g hg k1]
    simp[fA]
theorem aa3{s:aP}(v:s.V): ∀k:Nat,k<=s.pages.length->(s.allL k).Nodup/\ (∀x,x∈s.allL k↔ ∃(n:Nat) (g:bC),n<k/\s.pages[n]? =some g/\x∈s.iE n g)/\s.Zw k=lY ((s.allL k).map s.Zo)
 |0,_=>⟨by simp[aP.allL],fun x=>by simp[aP.allL],rfl⟩
 |k+1,hk=>by
  obtain⟨h1,h2,h3⟩:=aa3 v k (by omega)
  obtain⟨g,hg⟩: ∃g,s.pages[k]? =some g:=⟨_,List.getElem?_eq_getElem (by omega)⟩
  have e:s.allL (k+1)=s.allL k++s.iE k g:=by rw[aP.allL,hg]
  obtain⟨i1,i2⟩:=ZR v hg
  rw[e]
  refine⟨List.nodup_append.2 ⟨h1,i2,fun a ha b hb hab=> ?_⟩,fun x=> ?_, ?_⟩
  ·subst hab
   obtain⟨n,g',n1,n2,n3⟩:=(h2 a).1 ha
   obtain⟨q1,q2,_⟩:=(ZR v n2).1 a n3
   obtain⟨r1,r2,_⟩:=i1 a hb
   have:=aaW v q1 q2 r1 r2
   omega
  ·rw[List.mem_append,h2]
   constructor
   ·rintro(⟨n,g',n1,n2,n3⟩|hx)
    ·exact⟨n,g',by omega,n2,n3⟩
    ·exact⟨k,g,by omega,hg,hx⟩
   ·rintro⟨n,g',n1,n2,n3⟩
    by_cases en:n=k
    ·subst en
     rw[hg]at n2
     cases n2
     exact .inr n3
    ·exact .inl ⟨n,g',by omega,n2,n3⟩
  ·rw[List.map_append,zl,<-h3]
   simp[aP.Zw,aP.ZE,hg]
theorem acL{s:aP}(v:s.V):(s.allL s.pages.length).Nodup/\ (∀x,x∈s.allL s.pages.length↔ (s.aH x).isSome=true)/\s.used=lY ((s.allL s.pages.length).map s.Zo):=by
 obtain⟨h1,h2,h3⟩:=aa3 v s.pages.length (Nat.le_refl _)
 refine⟨h1,fun x=> ?_,h3⟩
 rw[h2]
 constructor
 ·rintro⟨n,g,_,hg,hx⟩
  exact((ZR v hg).1 x hx).2.2
 ·intro hx
  obtain⟨z,hz⟩:=Option.isSome_iff_exists.1 hx
  obtain⟨n,g,hg,hh⟩:=(cZ v).1 hz
  refine⟨n,g,(List.getElem?_eq_some_iff.1 hg).1,hg,(sJ v hg).2 ?_⟩
  rcases hh with⟨k,e,_⟩|⟨k,_,j,hj,e⟩
  ·exact .inl ⟨k,e⟩
  ·exact .inr ⟨k,j,hj,e⟩
section
variable{s:af}{c:gX}{cur az:List Int}{N:Int->dB}{hs:List Int}{K:Int->Prop}{loc:Int->Int}{m:Int}
theorem ab7(G:Good s cur [] N hs K loc)(T:ZO K s cur loc)(hR: ∀n,K n->Reach N hs n){F:Nat}(hF: ∀n,K n->0<n/\n<(F:Int)):
  lY ((s.oQ F).map s.oL)=s.y.cu/\lY ((s.oQ F).map s.zS)=s.o.used:=by
 obtain⟨e,hk,hn⟩:=G.live F
 have all: ∀n,K n->n∈IL N hs F:=fun n h=>acK (fun n h=>hF n (hk n h)) hn (hR n h)
 have nd:(s.oQ F).Nodup:=by
  rw[e]
  exact aaJ (fun a ha b hb h=>G.rep.inj a b (hk a ha) (hk b hb) h) hn
 have mem: ∀a,a∈s.oQ F↔a∈cur∨(s.o.aH a).isSome=true:=by
  intro a
  rw[e]
  constructor
  ·intro h
   obtain⟨n,h1,rfl⟩:=List.mem_map.1 h
   rcases G.rep.pl n (hk n h1)with h|h|h
   ·exact .inl h
   ·exact .inr h
   ·cases h.1
  ·intro h
   obtain⟨n,h1,rfl⟩:=T a h
   exact List.mem_map_of_mem (all n h1)
 have old: ∀a,(s.o.aH a).isSome=true->(ag s.ws a).old=true:=fun a h=>(G.inv.hds.Dw a h).2.1
 have yng: ∀a,a∈cur->(ag s.ws a).old=false:=fun a h=>(G.inv.hds.Dv a h).2.1
 constructor
 ·have h1:(s.oQ F).map s.oL=(s.oQ F).map fun a=>if(!(ag s.ws a).old)=true then(ag s.ws a).words else 0:=List.map_congr_left (fun a _=>by
   unfold af.oL
   cases(ag s.ws a).old<;>rfl)
  rw[h1,ZP]
  have p:((s.oQ F).filter fun a=> !(ag s.ws a).old).Perm cur:=ZX (nd.filter _) G.inv.lay.rc.nodup (fun a=>by
   rw[List.mem_filter,mem]
   constructor
   ·rintro⟨h|h,h2⟩
    ·exact h
    ·rw[old a h]at h2
     cases h2
   ·intro h
    exact⟨.inl h,by rw[yng a h];rfl⟩)
  rw[aa1 (p.map _)]
  have:=abT G.inv.lay.rc
  omega
 ·obtain⟨a1,a2,a3⟩:=acL G.inv.lay.ov
  have h1:(s.oQ F).map s.zS=(s.oQ F).map fun a=>if(ag s.ws a).old=true then zO s.C.page (ag s.ws a).words else 0:=rfl
  rw[h1,ZP,a3]
  have p:((s.oQ F).filter fun a=>(ag s.ws a).old).Perm (s.o.allL s.o.pages.length):=ZX (nd.filter _) a1 (fun a=>by
   rw[List.mem_filter,mem,a2]
   constructor
   ·rintro⟨h|h,h2⟩
    ·rw[yng a h]at h2
     cases h2
    ·exact h
   ·intro h
    exact⟨.inr h,old a h⟩)
  rw[aa1 (p.map _)]
  congr 1
  apply List.map_congr_left
  intro a ha
  obtain⟨z,hz⟩:=Option.isSome_iff_exists.1 ((a2 a).1 ha)
  have h2:=G.inv.lay.fit a z hz
  unfold aP.Zo
  rw[hz]
  show zO s.C.page _=z
  rw[h2,<-G.inv.lay.ow]
  rfl
end
end Go.Proofs.YtibemcgdmembeaaGreat
namespace Go.Proofs.YtibemcgdmembeaaGreat
open Go.RowKit
section
variable{s:af}{c:gX}{N:Int->dB}{hs:List Int}{m:Int}
theorem aaN(pc:Nat)(L:aX)(T:dM s c N hs m)(n:Nat)(E:ZK s n)(w:World)(h:Hp)(hi:In w h)(hc:ah pc L s h):
  Calls Tryz.prog 70 #[ptr pc] w fun e w'=>e= .returned (.int .i64 n)/\ ∃h',ah pc L (s.Zl n) h'/\aj h h' w w':=by
 have TP:=Lib.hid (fun k W h (hW:In W h) (hc:ah pc L (s.Zl k) h)=>aaI pc L (T.Zl k).Vu W h hW hc)
 have HE:=Lib.hid E
 have hn:=E.most
 have H0:Hid (∃h',ah pc L (s.Zl 0) h'/\aj h h' w w):=Lib.hid ⟨h,hc,aj.refl hi⟩
 clear hc hi T E
 simp only[ptr]at*
 go_enter Tryz.func70,Tryz.ntmps70
 go_wp2
 go_loopw [3] (fun q wr=> ∃(k:Nat),k<=n/\q= .int .i64 k/\Hid (∃h',ah pc L (s.Zl k) h'/\aj h h' w wr)) (fun q _=>n-(intOf q).toNat)
 case atStart=>exact⟨0,by omega,rfl,H0⟩
 case round=>
  obtain⟨k,hk,rfl,HW⟩:=hrel
  obtain⟨hk',ck,uk⟩:=HW.out
  have k21:=(ah.vars (x:=[]) ck uk.au).2
  have hst:=TP.out k wr hk' uk.au ck
  have HU:=Lib.hid uk
  have HC:=Lib.hid ck
  by_cases hlt:k<n
  ·rw[HE.out.on k hlt]at k21
   clear ck uk HW TP H0
   generalize (s.Zl k).oO=v1 at*
   generalize (s.Zl k).qf=v2 at*
   go_wp2_with(go_at_call 115;refine Calls.mono hst ?_;rintro e w2 ⟨rfl,h2,c2,u2⟩;have C2:=Lib.hid c2;have U2:=Lib.hid (HU.out.trans u2);clear c2 u2 hst)
   go_roundw
   case rel=>exact⟨k+1,by omega,by go_num,Lib.hid ⟨h2,C2.out,U2.out⟩⟩
   case measure=>simp[intOf];omega
  ·have e:k=n:=by omega
   have hoff:=HE.out.off
   rw[<-e]at hoff
   rw[hoff]at k21
   clear ck uk HW TP H0 hst hoff
   go_wp2
   go_ret
   rw[<-e]
   exact⟨rfl,hk',HC.out,HU.out⟩
theorem aaO(pc:Nat)(L:aX)(T:dM s c N hs m)(n:Nat)(E:ZC s n)(w:World)(h:Hp)(hi:In w h)(hc:ah pc L s h):
  Calls Tryz.prog 71 #[ptr pc] w fun e w'=>e= .returned (.int .i64 n)/\ ∃h',ah pc L (s.Zm (n+1)) h'/\aj h h' w w':=by
 have TP:=Lib.hid (fun k W h (hW:In W h) (hc:ah pc L (s.Zm k) h)=>J5 pc L (s.Zm k) W h hW hc (T.Zm k).um)
 have HE:=Lib.hid E
 have hn:=E.most
 have adx:=TP.out 0 w h hi hc
 simp only[ptr]at*
 go_enter Tryz.func71,Tryz.ntmps71
 generalize hv1:(s.Zm 0).tJ=v1 at*
 go_wp2_with(go_at_call 116;refine Calls.mono adx ?_;rintro e w0 ⟨rfl,h0,c0,u0⟩)
 clear hv1 adx
 have H0:Hid (∃h',ah pc L (s.Zm (0+1)) h'/\aj h h' w w0):=Lib.hid ⟨h0,c0,u0⟩
 clear hc hi T E c0 u0
 go_loopw [3,5] (fun q b wr=> ∃(k:Nat),k<=n/\q= .int .i64 k/\b= .bool (s.Zm k).yV/\Hid (∃h',ah pc L (s.Zm (k+1)) h'/\aj h h' w wr)) (fun q _ _=>n-(intOf q).toNat)
 case atStart=>exact⟨0,by omega,rfl,rfl,H0⟩
 case round=>
  obtain⟨k,hk,rfl,rfl,HW⟩:=hrel
  obtain⟨hk',ck,uk⟩:=HW.out
  have hst:=TP.out (k+1) wr hk' uk.au ck
  have HU:=Lib.hid uk
  have HC:=Lib.hid ck
  by_cases hlt:k<n
  ·have hon:=HE.out.on k hlt
   rw[hon]
   clear ck uk HW TP H0 hon
   generalize (s.Zm (k+1)).tJ=v1 at*
   go_wp2_with(go_at_call 116;refine Calls.mono hst ?_;rintro e w2 ⟨rfl,h2,c2,u2⟩;have C2:=Lib.hid c2;have U2:=Lib.hid (HU.out.trans u2);clear c2 u2 hst)
   go_roundw
   case rel=>exact⟨k+1,by omega,by go_num,rfl,Lib.hid ⟨h2,C2.out,U2.out⟩⟩
   case measure=>simp[intOf];omega
  ·have e:k=n:=by omega
   have hoff:=HE.out.off
   rw[<-e]at hoff
   rw[hoff]
   clear ck uk HW TP H0 hst hoff
   go_wp2
   go_ret
   rw[<-e]
   exact⟨rfl,hk',HC.out,HU.out⟩
theorem ZL(pc:Nat)(L:aX)(T:dM s c N hs m)(a b:Nat)(E1:ZK s a)(E2:ZC (s.Zl a) b)(w:World)(h:Hp)(hi:In w h)(hc:ah pc L s h):
  Calls Tryz.prog 30 #[ptr pc] w fun e w'=>e= .returned (.int .i64 (a+b))/\ ∃h',ah pc L (s.fin a b) h'/\aj h h' w w':=by
 have h1:=Lib.hid (aaN pc L T a E1 w h hi hc)
 have HG:=Lib.hid (fun W h (hW:In W h) (hc:ah pc L (s.Zl a) h)=>aaO pc L (T.Zl a) b E2 W h hW hc)
 have n1:=E1.most
 have n2:=E2.most
 clear hc hi T E1 E2
 simp only[ptr]at*
 go_enter Tryz.func30,Tryz.ntmps30
 go_wp2_with(first
  | (go_at_call 70;refine Calls.mono h1.out ?_;rintro e w1 ⟨rfl,h1',c1,u1⟩;have U1:=Lib.hid u1;have C1:=Lib.hid c1;clear u1 c1)
  | (go_at_call 71;refine Calls.mono (HG.out _ _ U1.out.au C1.out) ?_;rintro e w2 ⟨rfl,h2,c2,u2⟩;have U2:=Lib.hid (U1.out.trans u2);have C2:=Lib.hid c2;clear u2 c2))
 go_ret
 exact⟨by go_num,h2,C2.out,U2.out⟩
theorem aag(pc:Nat)(L:aX)(T:dM s c N hs m)(a b d f:Nat)(E:ZJ s a b d f)(w:World)(h:Hp)(hi:In w h)(hc:ah pc L s h):
  Calls Tryz.prog 31 #[ptr pc] w fun e w'=>e= .returned (.int .i64 (a+b+d+f))/\ ∃h',ah pc L (s.Zy a b d f) h'/\aj h h' w w':=by
 have T1:dM (s.fin a b) c N hs m:=(T.Zl a).Zm (b+1)
 have T2:=T1.dF
 have T3:=T2.Zm (d+1)
 have h1:=Lib.hid (ZL pc L T a b E.e1 E.e2 w h hi hc)
 have H2:=Lib.hid (fun W h (hW:In W h) (hc:ah pc L (s.fin a b) h)=>wE pc L T1 W h hW hc)
 have H3:=Lib.hid (fun W h (hW:In W h) (hc:ah pc L (s.fin a b).dF h)=>aaO pc L T2 d E.e3 W h hW hc)
 have H4:=Lib.hid (fun W h (hW:In W h) (hc:ah pc L ((s.fin a b).dF.Zm (d+1)) h)=>wC pc L T3 W h hW hc)
 have H5:=Lib.hid (fun W h (hW:In W h) (hc:ah pc L ((s.fin a b).dF.Zm (d+1)).eY h)=>aaN pc L T3.eY f E.e4 W h hW hc)
 have n1:=E.e1.most
 have n2:=E.e2.most
 have n3:=E.e3.most
 have n4:=E.e4.most
 clear hc hi T E T1 T2 T3
 simp only[ptr]at*
 generalize (s.fin a b).um=b1 at*
 generalize ((s.fin a b).dF.Zm (d+1)).jh=b2 at*
 go_enter Tryz.func31,Tryz.ntmps31
 go_wp2_with(first
  | (go_at_call 30;with_reducible refine Calls.mono h1.out ?_;rintro e w1 ⟨rfl,h1',c1,u1⟩;have U1:=Lib.hid u1;have C1:=Lib.hid c1;clear u1 c1)
  | (go_at_call 72;with_reducible refine Calls.mono (H2.out _ _ U1.out.au C1.out) ?_;rintro e w2 ⟨rfl,h2,c2,u2⟩;have U2:=Lib.hid (U1.out.trans u2);have C2:=Lib.hid c2;clear u2 c2)
  | (go_at_call 71;with_reducible refine Calls.mono (H3.out _ _ U2.out.au C2.out) ?_;rintro e w3 ⟨rfl,h3,c3,u3⟩;have U3:=Lib.hid (U2.out.trans u3);have C3:=Lib.hid c3;clear u3 c3)
  | (go_at_call 73;with_reducible refine Calls.mono (H4.out _ _ U3.out.au C3.out) ?_;rintro e w4 ⟨rfl,h4,c4,u4⟩;have U4:=Lib.hid (U3.out.trans u4);have C4:=Lib.hid c4;clear u4 c4)
  | (go_at_call 70;with_reducible refine Calls.mono (H5.out _ _ U4.out.au C4.out) ?_;rintro e w5 ⟨rfl,h5,c5,u5⟩;have U5:=Lib.hid (U4.out.trans u5);have C5:=Lib.hid c5;clear u5 c5))
 go_ret
 exact⟨by go_num,h5,C5.out,U5.out⟩
end
end Go.Proofs.YtibemcgdmembeaaGreat
namespace Go.Proofs.YtibemcgdmembeaaGreat
open Go.RowKit
structure abQ(s s':af)(c:gX)(g:a_):Prop where
 rel:lG s' c g
 mv:s'.aG=false
 ph:s'.phase=0
 ou:s'.y.ou=0
 wy:lY ((s'.oQ (g.nodes.length+1)).map s'.oL)=s'.y.cu
 adM:lY ((s'.oQ (g.nodes.length+1)).map s'.zS)=s'.o.used
 al:s'.done.oN=s.done.oN
 wd:s'.done.words=s.done.words
 tight: ∃cur K loc,Good s' cur [] (gN g) g.hs K loc/\ZO K s' cur loc/\ (∀n,K n->Reach (gN g) g.hs n)
theorem acM{s:af}{c:gX}{g:a_}(R:lG s c g): ∃a b d f:Nat,ZJ s a b d f/\abQ s (s.Zy a b d f) c g:=by
 obtain⟨a,b,d,f,E,_,_,_,_,h1,h2,h3,h4,_,_,cur,K,loc,G,adN,hR⟩:=aaX R.tied
 have T':dM (s.Zy a b d f) c (gN g) g.hs g.nodes.length:=((((R.tied.Zl a).Zm (b+1)).dF.Zm (d+1)).eY).Zl f
 have hK: ∀n,K n->0<n/\n<((g.nodes.length+1:Nat):Int):=by
  intro n hn
  obtain⟨_,_,K0,_,G0,_,h0⟩:=T'.ex
  have:=h0 n (G0.ZI (hR n hn))
  omega
 obtain⟨s1,s2⟩:=ab7 G adN hR hK
 exact⟨a,b,d,f,E,⟨T',R.lg⟩,h1,h2,(sU G.inv h1).2.1,s1,s2,h3,h4,cur,K,loc,G,adN,hR⟩
theorem ab8(pc:Nat)(L:aX){s:af}{c:gX}{g:a_}(R:lG s c g)(hb:g.nodes.length<=1000000)(w:World)(h:Hp)(hi:In w h)(hc:ah pc L s h):
  Calls Tryz.prog 37 #[ptr pc] w fun e w'=>e= .returned (.tuple #[.int .i64 (lY ((s.oQ (g.nodes.length+1)).map s.oL)), .int .i64 (lY ((s.oQ (g.nodes.length+1)).map s.zS))])/\ ∃h',ah pc L s h'/\aj h h' w w':=by
 obtain⟨Ok,m1,m2,m3,m4,m5⟩:=yE R
 have hf:=R.tied.fits
 have h1:=hf.g1
 have h2:=hf.g2
 exact IW pc L s g.nodes.length hb Ok m1 _ rfl m2 (by rw[R.tied.cf];exact h1) (by rw[R.tied.cf];omega) w h hi hc
theorem aaP{s s':af}{c:gX}{g:a_}(F:abQ s s' c g):s'.Zr.fG=s'.y.cu/\s'.Zr.old=s'.o.used/\0<=s'.y.cu/\s'.y.cu<=c.aU/\0<=s'.o.used/\s'.o.used<=c.pages*c.page/\s'.Zr.free=c.pages*c.page-s'.o.used:=by
 obtain⟨cur,az,I,_⟩:=F.rel.tied.inv
 obtain⟨n1,n2,n3,n4,n5,n6,n7,n8,n9,n10⟩:=I.lay.nums
 have hu:=acW I.lay.ov
 have e:(s'.o.pages.length:Int)*s'.o.words=c.pages*c.page:=by rw[I.lay.ol,I.lay.ow,F.rel.tied.cf]
 rw[e]at hu
 rw[F.rel.tied.cf]at n1 n2 n3 n4 n7
 have ho:=F.ou
 refine⟨?_,rfl,n6,n7,hu.1,hu.2, ?_⟩
 ·show wrap64 (s'.y.cu+s'.y.ou)=_
  rw[ho,Int.add_zero]
  exact pq ⟨by omega,by omega⟩
 ·show wrap64 (wrap64 (s'.C.pages*s'.C.page)-s'.o.used)=_
  rw[F.rel.tied.cf,pq (x:=c.pages*c.page) ⟨by omega,by omega⟩]
  exact pq ⟨by omega,by omega⟩
end Go.Proofs.YtibemcgdmembeaaGreat
