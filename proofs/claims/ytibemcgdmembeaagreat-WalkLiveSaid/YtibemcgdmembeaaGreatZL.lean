/- Stats of package heap. Condition: a core that is as it should be. -/
import Derived.Test.YtibemcgdmembeaaGreatRows
import Derived.Test.YtibemcgdmembeaaGreatZK
import Derived.Test.YtibemcgdmembeaaGreatZH
import Derived.Test.YtibemcgdmembeaaGreatZI
import Derived.Test.YtibemcgdmembeaaGreatZF
import Derived.Lib.MinMax
import Derived.Test.YtibemcgdmembeaaGreatZA
import Derived.Test.YtibemcgdmembeaaGreatZD
import Derived.ProofKit
import Derived.Below
import Derived.Lib.SmallJoins
import Derived.Deep.Slices
import Derived.Deep.Fields
import Derived.ChangeSame
import Derived.Carry
set_option linter.unusedVariables false
set_option linter.unusedSimpArgs false
set_option maxRecDepth 100000
set_option maxHeartbeats 4000000
namespace Go.Proofs.YtibemcgdmembeaaGreat
open Go.RowKit
def jS(s:af)(x:lM):af:=
 if x.kind=1 then(s.jo x.b x.c).make x.a x.b x.c
 else if x.kind=2 then s.vP x.a x.b x.c
 else if x.kind=3 then s.set x.a x.b x.c
 else if x.kind=5 then {s with ws:=s.writeW x.a x.b x.v}
 else if x.kind=6 then {s with t:=bP s.t x.a 0}
 else if x.kind=7 then {s with t:=s.tX x.a x.b}
 else if x.kind=11 then(if x.a=0 then(s.ja (EF x.b)).1 else if x.a=1 then(s.nV (EF x.b)).1 else s)
 else if x.kind=12 then(if x.a=0 then s.eY else if x.a=1 then s.dF else s)
 else s
def jc(s:af)(x:lM):rX:=
 if x.kind=1 then⟨(s.jo x.b x.c).gI x.a x.b x.c,false,0,0⟩
 else if x.kind=2 then⟨s.jr x.b x.c x.a,false,0,0⟩
 else if x.kind=3 then⟨s.jr x.a x.b x.c,false,0,0⟩
 else if x.kind=4 then⟨s.jf x.a x.b,false,0,s.tZ x.a x.b⟩
 else if x.kind=5 then⟨s.jf x.a x.b,false,0,0⟩
 else if x.kind=6 then⟨bI s.t x.a,false,0,0⟩
 else if x.kind=7 then⟨s.nG x.a x.b,false,0,0⟩
 else if x.kind=8 then⟨s.xN x.a x.b,s.tY x.a x.b,0,0⟩
 else if x.kind=9 then⟨bI s.t x.a,s.Dp x.a,0,0⟩
 else if x.kind=10 then⟨s.fP x.a,false,(s.iO x.a).ptrs,u64 ((s.iO x.a).size-(s.iO x.a).ptrs)⟩
 else if x.kind=11 then(if x.a=0 then⟨0,false,(s.ja (EF x.b)).2,0⟩else if x.a=1 then⟨0,false,(s.nV (EF x.b)).2,0⟩else⟨1,false,0,0⟩)
 else if x.kind=12 then(if x.a=0 then⟨0,s.jh,0,0⟩else if x.a=1 then⟨0,s.um,0,0⟩else⟨1,false,0,0⟩)
 else⟨1,false,0,0⟩
structure lM.Xy(x:lM):Prop where
 a:I64 x.a
 b:I64 x.b
 c:I64 x.c
 v:C_ x.v
theorem mQ(ph pc:Nat)(L:aX){s:af}{cf:gX}{N:Int->dB}{hs:List Int}{m:Int}(T:dM s cf N hs m)(x:lM)(wf:x.Xy)(w:World)(h:Hp)(hi:In w ((ph,aC pc)::h))(hc:ah pc L s h):
  Calls Tryz.prog 19 #[.pointer (some ⟨ph,0,none⟩), .agg (ak x)] w fun en w'=>en= .returned (.agg (ai (jc s x)))/\ ∃h',ah pc L (jS s x) h'/\aj ((ph,aC pc)::h) ((ph,aC pc)::h') w w':=by
 obtain⟨k,a,b,c,v⟩:=x
 obtain⟨wa,wb,wc,wv⟩:=wf
 simp only at wa wb wc wv
 have Z:=T.Vu
 have still: ∀{f:FuncId} {args:Array Value} {r:Value},(∀W h,In W h->ah pc L s h->Calls Tryz.prog f args W fun e w'=>e= .returned r/\aj h h W w')->ah pc L s h-> ∀W,In W h->Calls Tryz.prog f args W fun e w'=>e= .returned r/\ ∃h',ah pc L s h'/\aj h h' W w':=
  fun hh hc W hW=>(hh W h hW hc).mono fun e w' he=>⟨he.1,h,hc,he.2⟩
 unfold jS jc
 by_cases h1:k=1
 ·subst h1
  exact QB ph pc a b c v _ w h (fun h'=>ah pc L _ h') hi (fun W hW=>Oq ph pc L T a b c v wb wc W h hW hc)
 by_cases h2:k=2
 ·subst h2
  exact Tm ph pc a b c v _ w h (fun h'=>ah pc L _ h') hi (fun W hW=>DF pc L Z a b c W h hW hc)
 by_cases h3:k=3
 ·subst h3
  exact Tn ph pc a b c v _ w h (fun h'=>ah pc L _ h') hi (fun W hW=>Ph pc L s a b c W h hW hc)
 by_cases h5:k=5
 ·subst h5
  exact Og ph pc a b c v _ w h (fun h'=>ah pc L _ h') hi (fun W hW=>Je pc L s a b v W h hW hc wv)
 by_cases h6:k=6
 ·subst h6
  exact Oh ph pc a b c v _ w h (fun h'=>ah pc L _ h') hi (fun W hW=>Jc pc L s a W h hW hc)
 by_cases h7:k=7
 ·subst h7
  exact Qw ph pc a b c v _ w h (fun h'=>ah pc L _ h') hi (fun W hW=>MP pc L s a b W h hW hc)
 by_cases h11:k=11
 ·subst h11
  simp only[show¬((11:Int)=1) by decide,show¬((11:Int)=2) by decide,show¬((11:Int)=3) by decide,show¬((11:Int)=4) by decide,show¬((11:Int)=5) by decide,show¬((11:Int)=6) by decide,show¬((11:Int)=7) by decide,show¬((11:Int)=8) by decide,show¬((11:Int)=9) by decide,show¬((11:Int)=10) by decide,if_true,if_false]
  have hwk:EF b<=100000000000:=by unfold EF;omega
  by_cases ha:a=0
  ·subst ha
   rw[if_pos rfl,if_pos rfl]
   exact CO ph pc 0 b c v _ w h (fun h'=>ah pc L _ h') hi (fun W hW=>Qy ph pc b c v _ W h (fun h'=>ah pc L _ h') hW (fun W2 hW2=>zM pc L T _ hwk W2 h hW2 hc))
  ·rw[if_neg ha,if_neg ha]
   by_cases ha1:a=1
   ·subst ha1
    rw[if_pos rfl,if_pos rfl]
    exact CO ph pc 1 b c v _ w h (fun h'=>ah pc L _ h') hi (fun W hW=>Qz ph pc b c v _ W h (fun h'=>ah pc L _ h') hW (fun W2 hW2=>zN pc L T _ hwk W2 h hW2 hc))
   ·rw[if_neg ha1,if_neg ha1]
    exact CO ph pc a b c v _ w h (fun h'=>ah pc L _ h') hi (fun W hW=>(QA _ a b c v ha ha1 W _ hW).mono fun e w' he=>⟨he.1,h,hc,he.2⟩)
 by_cases h12:k=12
 ·subst h12
  simp only[show¬((12:Int)=1) by decide,show¬((12:Int)=2) by decide,show¬((12:Int)=3) by decide,show¬((12:Int)=4) by decide,show¬((12:Int)=5) by decide,show¬((12:Int)=6) by decide,show¬((12:Int)=7) by decide,show¬((12:Int)=8) by decide,show¬((12:Int)=9) by decide,show¬((12:Int)=10) by decide,show¬((12:Int)=11) by decide,if_true,if_false]
  by_cases ha:a=0
  ·subst ha
   rw[if_pos rfl,if_pos rfl]
   exact y_ ph pc 0 b c v _ w h (fun h'=>ah pc L _ h') hi (fun W hW=>Ol ph pc b c v _ W h (fun h'=>ah pc L _ h') hW (fun W2 hW2=>wC pc L T W2 h hW2 hc))
  ·rw[if_neg ha,if_neg ha]
   by_cases ha1:a=1
   ·subst ha1
    rw[if_pos rfl,if_pos rfl]
    exact y_ ph pc 1 b c v _ w h (fun h'=>ah pc L _ h') hi (fun W hW=>Om ph pc b c v _ W h (fun h'=>ah pc L _ h') hW (fun W2 hW2=>wE pc L T W2 h hW2 hc))
   ·rw[if_neg ha1,if_neg ha1]
    exact y_ ph pc a b c v _ w h (fun h'=>ah pc L _ h') hi (fun W hW=>(Oo _ a b c v ha ha1 W _ hW).mono fun e w' he=>⟨he.1,h,hc,he.2⟩)
 have hno:k≠1/\k≠2/\k≠3/\k≠5/\k≠6/\k≠7/\k≠11/\k≠12:=⟨h1,h2,h3,h5,h6,h7,h11,h12⟩
 simp only[if_neg h1,if_neg h2,if_neg h3,if_neg h5,if_neg h6,if_neg h7,if_neg h11,if_neg h12]
 refine QC ph pc k a b c v hno _ w h (fun h'=>ah pc L s h') hi (fun W hW=> ?_)
 by_cases h4:k=4
 ·subst h4
  exact Oi ph pc a b c v _ _ W h (fun h'=>ah pc L s h') hW (fun W2 hW2=>MS pc L s a b W2 h hW2 hc)
 by_cases h8:k=8
 ·subst h8
  exact Oj ph pc a b c v _ _ W h (fun h'=>ah pc L s h') hW (still (fun W h hi hc=>MQ pc L s a b W h hi hc) hc)
 by_cases h9:k=9
 ·subst h9
  exact Qx ph pc a b c v _ _ W h (fun h'=>ah pc L s h') hW (still (fun W h hi hc=>Pg pc L s a W h hi hc) hc)
 by_cases h10:k=10
 ·subst h10
  exact Kr ph pc a b c v _ _ _ W h (fun h'=>ah pc L s h') hW (fun W2 hW2=>EW pc L s a W2 h hW2 hc)
 simp only[if_neg h4,if_neg h8,if_neg h9,if_neg h10]
 exact(Kt _ k a b c v h4 h8 h9 h10 W _ hW).mono fun e w' he=>⟨he.1,h,hc,he.2⟩
end Go.Proofs.YtibemcgdmembeaaGreat
namespace Go.Proofs.YtibemcgdmembeaaGreat
open Go.RowKit
def gN(g:a_)(n:Int):dB:=⟨(g.nodes.getD n.toNat nd0).ptrs,(g.nodes.getD n.toNat nd0).iD⟩
structure lG(s:af)(c:gX)(g:a_):Prop where
 tied:dM s c (gN g) g.hs g.nodes.length
 lg:g.largest=c.largest
def QD(g:a_)(x:lM):rX:=if x.kind=11∨x.kind=12 then⟨if x.a=0∨x.a=1 then 0 else 1,false,0,0⟩else Qn g x
def QE(x:lM)(a:rX):rX:=if x.kind=11∨x.kind=12 then⟨a.e,false,0,0⟩else a
theorem Rep.congrN{s:af}{cur az:List Int}{N N':Int->dB}{hs:List Int}{K:Int->Prop}{loc:Int->Int}(R:Rep s cur az N hs K loc)(h: ∀n,K n->N' n=N n):Rep s cur az N' hs K loc:=
 ⟨R.k0,R.l0,R.inj,R.pl,fun n hn=>by rw[h n hn];exact R.sz n hn,fun n hn=>by rw[h n hn];exact R.pn n hn,fun n hn=>by rw[h n hn];exact R.pk n hn,fun n hn=>by rw[h n hn];exact R.pt n hn,fun n hn=>by rw[h n hn];exact R.sc n hn,R.hl,R.hk,R.hv⟩
theorem dM.congr{s:af}{c:gX}{N N':Int->dB}{hs:List Int}{m:Int}(T:dM s c N hs m)(h: ∀n,0<n->n<m->N' n=N n):dM s c N' hs m:=by
 obtain⟨cur,az,K,loc,G,M,hk⟩:=T.ex
 have hN: ∀n,K n->N' n=N n:=fun n hn=>h n (hk n hn).1 (hk n hn).2
 exact⟨⟨cur,az,K,loc,⟨G.inv,G.hdl,G.rep.congrN hN⟩,M.congrN (fun n hn _ _ _ x hx _=> .inl (by rw[hN n hn]at hx;exact hx)),hk⟩,T.m0,T.cf,T.lk,T.gl,T.adC,T.od,T.tl⟩
section
variable{s:af}{c:gX}{g:a_}
theorem lG.good(R:lG s c g): ∃cur az K loc,Good s cur az (gN g) g.hs K loc/\ ∀n,K n->0<n/\n<g.nodes.length:=by
 obtain⟨cur,az,K,loc,G,M,hk⟩:=R.tied.ex
 exact⟨cur,az,K,loc,G,hk⟩
theorem IG(g:a_)(i:Int):uf g.hs i=g.wrong i:=rfl
theorem Ku(g:a_)(a b n:Int):wo (gN g) g.hs b n a=g.J9 a b n:=rfl
theorem Kv(g:a_)(a b n:Int):wo (gN g) g.hs a b n=g.SG a b n:=rfl
theorem tK(g:a_)(a b:Int):sW (gN g) g.hs a b=g.jf a b:=rfl
theorem Lt{l:List Int}{i:Int}(h:0<=i):rd l i=l.getD i.toNat 0:=if_pos h
theorem CP(R:lG s c g)(i:Int):bY s.t i=bY g.hs i:=by
 obtain⟨cur,az,K,loc,G,hk⟩:=R.good
 exact G.ok i
theorem Lu(R:lG s c g){i:Int}(h:g.wrong i=0):0<aB g.hs i/\aB g.hs i<g.nodes.length:=by
 obtain⟨cur,az,K,loc,G,hk⟩:=R.good
 have h2:uf g.hs i=0:=h
 exact hk _ ((G.node i).resolve_left (BH h2).2)
theorem LC(g:a_){a:Int}(x:qB)(h0:0<aB g.hs a)(h1:aB g.hs a<g.nodes.length): ∀n:Int,0<n->n<g.nodes.length->gN (g.Iq a x) n=qN (gN g) (aB g.hs a) ⟨x.ptrs,x.iD⟩ n:=by
 intro n n0 n1
 unfold gN a_.Iq qN
 simp only[List.getD_eq_getElem?_getD,List.getElem?_set]
 by_cases e:n=aB g.hs a
 ·rw[if_pos e,e,if_pos rfl,if_pos (by omega)]
  rfl
 ·rw[if_neg e,if_neg (by omega)]
theorem QF(R:lG s c g){a b d:Int}(he:s.gI a b d=0)(hb:0<=b)(hd:0<=d):lG (s.made a b d) c (g.make a b d):=by
 refine⟨?_,R.lg⟩
 have T:=R.tied.made he
 have hl:((g.make a b d).nodes.length:Int)=g.nodes.length+1:=by simp[a_.make]
 rw[hl]
 refine T.congr fun n n0 n1=> ?_
 unfold qN
 by_cases e:n=g.nodes.length
 ·rw[if_pos e]
  unfold gN a_.make BI
  have e2:n.toNat=g.nodes.length:=by omega
  simp[e2,List.getD_eq_getElem?_getD]
 ·rw[if_neg e]
  unfold gN a_.make
  have e2:n.toNat<g.nodes.length:=by omega
  simp only[List.getD_eq_getElem?_getD]
  rw[List.getElem?_append_left e2]
theorem II(R:lG s c g)(b d:Int):lG (s.jo b d) c g:=by
 unfold af.jo
 split
 ·exact⟨R.tied.qc _,R.lg⟩
 ·exact R
theorem IJ(R:lG s c g)(a b d:Int):s.gI a b d=g.gI a b d∨(s.gI a b d=7/\g.gI a b d=0):=by
 unfold af.gI a_.gI
 have e:s.eX b d=g.eX b d:=by
  unfold af.eX a_.eX
  rw[R.tied.cf,R.lg]
 rw[CP R,e]
 split
 ·split
  ·split
   ·exact .inl rfl
   ·exact .inr ⟨rfl,rfl⟩
  ·exact .inl rfl
 ·exact .inl rfl
theorem rel_step(R:lG s c g)(x:lM):
  ((x.kind=1/\ (jc s x).e=7)->lG (jS s x) c g)/\ (¬(x.kind=1/\ (jc s x).e=7)->lG (jS s x) c (oh g x)/\QE x (jc s x)=QD g x):=by
 obtain⟨k,a,b,d,v⟩:=x
 obtain⟨cur,az,K,loc,G,hk⟩:=R.good
 unfold jS jc QE QD oh Qn
 simp only
 by_cases h1:k=1
 ·subst h1
  simp only[if_true,show¬((1:Int)=11∨(1:Int)=12) by decide,if_false]
  have R1:=II R b d
  generalize s.jo b d=s1 at*
  have hm:=IJ R1 a b d
  refine⟨fun h=> ?_,fun h=> ?_⟩
  ·unfold af.make
   rw[if_neg (by omega)]
   exact R1
  ·have h7:s1.gI a b d≠7:=fun e=>h ⟨trivial,e⟩
   have he:=hm.resolve_right (fun q=>h7 q.1)
   refine⟨?_,by rw[he]⟩
   unfold af.make
   rw[he]
   by_cases hz:g.gI a b d=0
   ·rw[if_pos hz,if_pos hz]
    have hsh:g.eX b d=true:=by
     unfold a_.gI at hz
     split at hz
     ·split at hz
      ·assumption
      ·cases hz
     ·cases hz
    unfold a_.eX at hsh
    simp only[decide_eq_true_eq]at hsh
    exact QF R1 (by rw[he];exact hz) hsh.1 hsh.2.1
   ·rw[if_neg hz,if_neg hz]
    exact R1
 refine⟨fun h=>absurd h.1 h1,fun _=> ?_⟩
 rw[if_neg h1,if_neg h1,if_neg h1,if_neg h1]
 by_cases h2:k=2
 ·subst h2
  simp only[if_true,show¬((2:Int)=11∨(2:Int)=12) by decide,if_false]
  refine⟨⟨?_, ?_⟩,by rw[G.jr];rfl⟩
  ·have T:=R.tied.got a b d
   have e:NG (gN g) g.hs a b d=(if g.J9 a b d=0 then g.get a b d else g).hs:=by
    unfold NG
    rw[Ku]
    by_cases hz:g.J9 a b d=0
    ·rw[if_pos hz,if_pos hz]
     have hc:0<=d:=by
      have:=nT.1 (show wo (gN g) g.hs b d a=0 from hz)
      have:=of_decide_eq_true this.2.2
      exact this.1
     unfold a_.get
     rw[Lt hc]
     rfl
    ·rw[if_neg hz,if_neg hz]
   have e2:(if g.J9 a b d=0 then g.get a b d else g).nodes=g.nodes:=by split<;>rfl
   rw[<-e,e2]
   exact T.congr (fun n _ _=>by unfold gN;rw[e2])
  ·have:(if g.J9 a b d=0 then g.get a b d else g).largest=g.largest:=by split<;>rfl
   rw[this]
   exact R.lg
 rw[if_neg h2,if_neg h2,if_neg h2,if_neg h2]
 by_cases h3:k=3
 ·subst h3
  simp only[if_true,show¬((3:Int)=11∨(3:Int)=12) by decide,if_false]
  refine⟨?_,by rw[G.jr];rfl⟩
  have T:=R.tied.set a b d
  unfold DC at T
  rw[Kv]at T
  by_cases hz:g.SG a b d=0
  ·rw[if_pos hz]at T⊢
   have hw:g.wrong a=0:=(nT.1 (show wo (gN g) g.hs a b d=0 from hz)).1
   obtain⟨q0,q1⟩:=Lu R hw
   refine⟨?_,R.lg⟩
   have hl:((g.set a b d).nodes.length:Int)=g.nodes.length:=by simp[a_.set,a_.Iq]
   rw[hl]
   exact T.congr (fun n n0 n1=>LC g _ q0 q1 n n0 n1)
  ·rw[if_neg hz]at T⊢
   exact⟨T,R.lg⟩
 rw[if_neg h3,if_neg h3,if_neg h3,if_neg h3]
 by_cases h4:k=4
 ·subst h4
  simp only[if_true,show¬((4:Int)=11∨(4:Int)=12) by decide,show¬((4:Int)=5) by decide,show¬((4:Int)=6) by decide,show¬((4:Int)=7) by decide,show¬((4:Int)=11) by decide,show¬((4:Int)=12) by decide,or_self,if_false]
  refine⟨R, ?_⟩
  rw[G.jf,G.tZ,tK]
  unfold P8
  rw[tK]
  by_cases hz:g.jf a b=0
  ·rw[if_pos hz,if_pos hz]
   have hb:=of_decide_eq_true (jP.1 (show sW (gN g) g.hs a b=0 from hz)).2
   rw[Lt hb.1]
   rfl
  ·rw[if_neg hz,if_neg hz]
 by_cases h5:k=5
 ·subst h5
  simp only[if_true,show¬((5:Int)=11∨(5:Int)=12) by decide,show¬((5:Int)=4) by decide,if_false]
  refine⟨?_,by rw[G.jf];rfl⟩
  have T:=R.tied.write a b v
  unfold wV at T
  rw[tK]at T
  by_cases hz:g.jf a b=0
  ·rw[if_pos hz]at T⊢
   have hw:g.wrong a=0:=(jP.1 (show sW (gN g) g.hs a b=0 from hz)).1
   obtain⟨q0,q1⟩:=Lu R hw
   refine⟨?_,R.lg⟩
   have hl:((g.write a b v).nodes.length:Int)=g.nodes.length:=by simp[a_.write,a_.Iq]
   rw[hl]
   exact T.congr (fun n n0 n1=>LC g _ q0 q1 n n0 n1)
  ·rw[if_neg hz]at T⊢
   exact⟨T,R.lg⟩
 rw[if_neg h4,if_neg h5,if_neg h5,if_neg h4,if_neg h5,if_neg h5]
 by_cases h6:k=6
 ·subst h6
  simp only[if_true,show¬((6:Int)=11∨(6:Int)=12) by decide,if_false]
  refine⟨⟨R.tied.clear a,R.lg⟩, ?_⟩
  unfold bI
  rw[CP R]
 rw[if_neg h6,if_neg h6,if_neg h6,if_neg h6]
 by_cases h7:k=7
 ·subst h7
  simp only[if_true,show¬((7:Int)=11∨(7:Int)=12) by decide,if_false]
  refine⟨?_, ?_⟩
  ·have T:=R.tied.copy a b
   unfold Eg at T
   split
   ·rename_i hq
    rw[if_pos hq]at T
    exact⟨T,R.lg⟩
   ·rename_i hq
    rw[if_neg hq]at T
    exact⟨T,R.lg⟩
  ·unfold af.nG bI
   rw[CP R,CP R]
   cases bY g.hs a<;>cases bY g.hs b<;>rfl
 rw[if_neg h7,if_neg h7,if_neg h7,if_neg h7]
 by_cases h11:k=11
 ·subst h11
  simp only[if_true,true_or,show¬((11:Int)=8) by decide,show¬((11:Int)=9) by decide,show¬((11:Int)=10) by decide,if_false]
  by_cases ha:a=0
  ·rw[if_pos ha,if_pos ha,if_pos (.inl ha)]
   exact⟨⟨R.tied.ja _,R.lg⟩,rfl⟩
  ·rw[if_neg ha,if_neg ha]
   by_cases ha1:a=1
   ·rw[if_pos ha1,if_pos ha1,if_pos (.inr ha1)]
    exact⟨⟨R.tied.nV _,R.lg⟩,rfl⟩
   ·rw[if_neg ha1,if_neg ha1,if_neg (by omega)]
    exact⟨R,rfl⟩
 by_cases h12:k=12
 ·subst h12
  simp only[if_true,or_true,show¬((12:Int)=11) by decide,show¬((12:Int)=8) by decide,show¬((12:Int)=9) by decide,show¬((12:Int)=10) by decide,if_false]
  by_cases ha:a=0
  ·rw[if_pos ha,if_pos ha,if_pos (.inl ha)]
   exact⟨⟨R.tied.eY,R.lg⟩,rfl⟩
  ·rw[if_neg ha,if_neg ha]
   by_cases ha1:a=1
   ·rw[if_pos ha1,if_pos ha1,if_pos (.inr ha1)]
    exact⟨⟨R.tied.dF,R.lg⟩,rfl⟩
   ·rw[if_neg ha1,if_neg ha1,if_neg (by omega)]
    exact⟨R,rfl⟩
 have hno: ¬(k=11∨k=12):=fun h=>h.elim h11 h12
 rw[if_neg h11,if_neg h11,if_neg h12,if_neg h12,if_neg hno,if_neg hno]
 refine⟨R, ?_⟩
 by_cases h8:k=8
 ·rw[if_pos h8,if_pos h8,G.tY]
  unfold af.xN
  rw[CP R,CP R]
 rw[if_neg h8,if_neg h8]
 by_cases h9:k=9
 ·rw[if_pos h9,if_pos h9,G.Dp]
  unfold bI
  rw[CP R]
 rw[if_neg h9,if_neg h9]
 by_cases h10:k=10
 ·rw[if_pos h10,if_pos h10,G.fP,IG]
  by_cases hw:g.wrong a=0
  ·rw[if_pos hw,if_pos hw]
   obtain⟨z1,z2,z3,z4,z5,z6⟩:=G.obj (show s.fP a=0 by rw[G.fP];exact hw)
   have hb:=af.pI s a
   obtain⟨b1,b2,b3,b4,_⟩:=hb
   rw[z5,z6]
   have e1:((gN g (aB g.hs a)).ptrs.length:Int)=(g.nd a).ptrs.length:=rfl
   have e2:((gN g (aB g.hs a)).iD.length:Int)=(g.nd a).iD.length:=rfl
   rw[e1,e2]at z5
   rw[e1]at z6
   rw[e1,e2]
   have e3:u64 (((g.nd a).ptrs.length:Int)+(g.nd a).iD.length-(g.nd a).ptrs.length)=(g.nd a).iD.length:=by
    unfold u64
    omega
   rw[e3]
  ·rw[if_neg hw,if_neg hw]
   have hh:s.iO a=hd0:=by
    unfold af.iO
    rw[if_neg]
    rw[G.fP]
    exact hw
   rw[hh]
   rfl
 rw[if_neg h10,if_neg h10]
end
theorem xw{c:gX}(h:c.Fits)(hst:0<=c.stack):lG (gJ c) c (Df c):=⟨(tied_new h hst).congr (fun n n0 n1=>by have:((Df c).nodes.length:Int)=1:=rfl;omega),rfl⟩
end Go.Proofs.YtibemcgdmembeaaGreat
namespace Go.Proofs.YtibemcgdmembeaaGreat
open Go.RowKit
section
variable{K:Int->Prop}{loc:Int->Int}
theorem IK(hi: ∀n m,K n->K m->loc n=loc m->n=m)(l0:loc 0=0)(hz: ∀n,K n->loc n≠0){y x:Int}(hy:K y)(hx:x=0∨K x)(e:loc y=loc x):y=x:=by
 rcases hx with rfl|hx
 ·rw[l0]at e
  exact absurd e (hz y hy)
 ·exact hi y x hy hx e
theorem Tq(hi: ∀n m,K n->K m->loc n=loc m->n=m)(l0:loc 0=0)(hz: ∀n,K n->loc n≠0){ms:List Int}{x:Int}(hm: ∀m∈ms,K m)(hx:x=0∨K x):loc x∈ms.map loc↔x∈ms:=by
 refine⟨fun h=> ?_,List.mem_map_of_mem⟩
 obtain⟨m,h1,h2⟩:=List.mem_map.1 h
 exact IK hi l0 hz (hm m h1) hx h2▸h1
theorem CQ(hi: ∀n m,K n->K m->loc n=loc m->n=m)(l0:loc 0=0)(hz: ∀n,K n->loc n≠0){ms:List Int}{x:Int}(hm: ∀m∈ms,K m)(hx:x=0∨K x):
  qU (ms.map loc) (loc x)=(qU ms x).map loc/\ (∀m∈qU ms x,K m)/\ (ms.Nodup->(qU ms x).Nodup):=by
 have h0:loc x=0↔x=0:=by
  constructor
  ·intro h
   rcases hx with rfl|hx
   ·rfl
   ·exact absurd h (hz x hx)
  ·rintro rfl
   exact l0
 unfold qU
 have hE:(loc x=0∨loc x∈ms.map loc)↔ (x=0∨x∈ms):=by rw[h0,Tq hi l0 hz hm hx]
 by_cases h:x=0∨x∈ms
 ·rw[if_pos (hE.2 h),if_pos h]
  exact⟨rfl,hm,id⟩
 ·rw[if_neg (fun h'=>h (hE.1 h')),if_neg h]
  have hx':K x:=hx.resolve_left (fun e=>h (.inl e))
  refine⟨by simp,fun m hm'=> ?_,fun hn=> ?_⟩
  ·rcases List.mem_append.1 hm' with h1|h1
   ·exact hm m h1
   ·rw[List.mem_singleton.1 h1];exact hx'
  ·rw[List.nodup_append]
   refine⟨hn,by simp,fun a ha b hb e=> ?_⟩
   rw[List.mem_singleton.1 hb]at e
   exact h (.inr (e▸ha))
theorem zf(hi: ∀n m,K n->K m->loc n=loc m->n=m)(l0:loc 0=0)(hz: ∀n,K n->loc n≠0): ∀(l ms:List Int),(∀m∈ms,K m)->(∀x∈l,x=0∨K x)->
  mP (ms.map loc) (l.map loc)=(mP ms l).map loc/\ (∀m∈mP ms l,K m)/\ (ms.Nodup->(mP ms l).Nodup)
 |[],ms,hm,_=>⟨rfl,hm,id⟩
 |x::l,ms,hm,hl=>by
  obtain⟨h1,h2,h3⟩:=CQ hi l0 hz hm (hl x (List.mem_cons_self ..))
  obtain⟨h4,h5,h6⟩:=zf hi l0 hz l (qU ms x) h2 (fun y hy=>hl y (List.mem_cons_of_mem _ hy))
  refine⟨?_,h5,fun h=>h6 (h3 h)⟩
  show mP (qU (ms.map loc) (loc x)) (l.map loc)=_
  rw[h1]
  exact h4
theorem EG(hi: ∀n m,K n->K m->loc n=loc m->n=m)(l0:loc 0=0)(hz: ∀n,K n->loc n≠0){rf rg:Int->List Int}(hr: ∀n,K n->rf (loc n)=(rg n).map loc)(hk: ∀n,K n-> ∀x∈rg n,x=0∨K x): ∀(f n:Nat) (ms:List Int),(∀m∈ms,K m)->
  qE rf f n (ms.map loc)=(qE rg f n ms).map loc/\ (∀m∈qE rg f n ms,K m)/\ (ms.Nodup->(qE rg f n ms).Nodup)
 |0,n,ms,hm=>⟨rfl,hm,id⟩
 |f+1,n,ms,hm=>by
  unfold qE
  rw[List.getElem?_map]
  cases h:ms[n]? with
  |none=>exact⟨rfl,hm,id⟩
  |some a=>
   have ha:=hm a (List.mem_of_getElem? h)
   obtain⟨h1,h2,h3⟩:=zf hi l0 hz (rg a) ms hm (hk a ha)
   obtain⟨h4,h5,h6⟩:=EG hi l0 hz hr hk f (n+1) (mP ms (rg a)) h2
   simp only[Option.map_some]
   rw[hr a ha,h1]
   exact⟨h4,h5,fun h=>h6 (h3 h)⟩
theorem CS(hi: ∀n m,K n->K m->loc n=loc m->n=m)(l0:loc 0=0)(hz: ∀n,K n->loc n≠0): ∀(ms:List Int) (x:Int),(∀m∈ms,K m)->(x=0∨K x)->jX (ms.map loc) (loc x)=jX ms x
 |[],_,_,_=>rfl
 |m::ms,x,hm,hx=>by
  have ih:=CS hi l0 hz ms x (fun y hy=>hm y (List.mem_cons_of_mem _ hy)) hx
  rw[List.map_cons]
  unfold jX
  rw[ih]
  by_cases e:m=x
  ·rw[if_pos (by rw[e]),if_pos e]
  ·rw[if_neg (fun h=>e (IK hi l0 hz (hm m (List.mem_cons_self ..)) hx h)),if_neg e]
end
def IL(N:Int->dB)(hs:List Int)(F:Nat):List Int:=qE (fun n=>(N n).ptrs) F 0 (mP [] hs)
def LD(N:Int->dB)(l:List Int)(n:Int):qB:=⟨(N n).ptrs.map (jX l),(N n).iD⟩
section
variable{s:af}{cur az:List Int}{N:Int->dB}{hs:List Int}{K:Int->Prop}{loc:Int->Int}
theorem Good.xm(G:Good s cur az N hs K loc):s.t.map s.now=hs.map loc:=by
 have R:=G.rep
 apply List.ext_getElem
 ·simp[R.hl]
 ·intro i h1 h2
  simp only[List.length_map]at h1 h2
  have:=R.hv i h2
  rw[List.getD_eq_getElem?_getD,List.getElem?_eq_getElem h1,List.getD_eq_getElem?_getD,List.getElem?_eq_getElem h2]at this
  simpa using this
theorem Good.FT(G:Good s cur az N hs K loc){n:Int}(hn:K n):s.gV (loc n)=(N n).ptrs.map loc:=by
 have R:=G.rep
 unfold af.gV af.bQ
 rw[R.pn n hn,Int.toNat_natCast,<-uO loc]
 apply List.map_congr_left
 intro k hk
 exact R.pt n hn k (List.mem_range.1 hk)
theorem Good.nz(G:Good s cur az N hs K loc): ∀n,K n->loc n≠0:=fun n hn=>G.inv.lay.not_zero (G.rep.pl n hn).kE
theorem Good.live(G:Good s cur az N hs K loc)(F:Nat):s.oQ F=(IL N hs F).map loc/\ (∀m∈IL N hs F,K m)/\ (IL N hs F).Nodup:=by
 have R:=G.rep
 unfold af.oQ IL
 rw[G.xm]
 obtain⟨h1,h2,h3⟩:=zf (K:=K) R.inj R.l0 G.nz hs [] (by simp) R.hk
 obtain⟨h4,h5,h6⟩:=EG (K:=K) (rf:=s.gV) (rg:=fun n=>(N n).ptrs) R.inj R.l0 G.nz (fun n hn=>G.FT hn) R.pk F 0 _ h2
 rw[List.map_nil]at h1
 rw[h1]
 exact⟨h4,h5,h6 (h3 List.nodup_nil)⟩
theorem Good.QG(G:Good s cur az N hs K loc){ms:List Int}(hm: ∀m∈ms,K m){n:Int}(hn:K n):s.yu (ms.map loc) (loc n)=LD N ms n:=by
 have R:=G.rep
 have hI:=(R.pl n hn).kE
 obtain⟨p1,p2,p3,p4⟩:=G.inv.lay.pos hI
 obtain⟨b1,b2,b3,b4,b5⟩:=aA s.ws (loc n)
 have hsz:=R.sz n hn
 have hpn:=R.pn n hn
 unfold af.yu LD
 congr 1
 ·rw[G.FT hn,List.map_map]
  apply List.map_congr_left
  intro x hx
  exact CS R.inj R.l0 G.nz ms x hm (R.pk n hn x hx)
 ·rw[hpn,hsz,show(((N n).ptrs.length:Int)+((N n).iD.length:Int)-((N n).ptrs.length:Int)).toNat=(N n).iD.length by omega]
  have e:=uO (fun x:Int=>x) (N n).iD
  rw[List.map_id']at e
  rw[<-e]
  simp only[List.length_map,List.length_range]
  apply List.map_congr_left
  intro k hk
  have hk':=List.mem_range.1 hk
  have h1:=R.sc n hn k hk'
  rw[Bv,oH (by omega) p3 (by omega) (by omega),h1]
theorem Good.QH(G:Good s cur az N hs K loc){ms:List Int}(hm: ∀m∈ms,K m):(s.t.map fun x=>jX (ms.map loc) (s.now x))=hs.map (jX ms):=by
 have e:(s.t.map fun x=>jX (ms.map loc) (s.now x))=(s.t.map s.now).map (jX (ms.map loc)):=by rw[List.map_map];rfl
 rw[e,G.xm,List.map_map]
 apply List.map_congr_left
 intro x hx
 exact CS G.rep.inj G.rep.l0 G.nz ms x hm (G.rep.hk x hx)
def Good.Ok(_:Good s cur az N hs K loc)(met:List Int):Prop:= ∃ms:List Int,met=ms.map loc/\ms.Nodup/\ ∀m∈ms,K m
theorem Good.Tt(G:Good s cur az N hs K loc){M:Nat}(hM: ∀n,K n->0<n/\n<M):yt s M G.Ok where
 nil:=⟨[],rfl,List.nodup_nil,by simp⟩
 tbl:=fun met x hx ⟨ms,h1,h2,h3⟩=>by
  have hx':s.now x∈hs.map loc:=by rw[<-G.xm];exact List.mem_map_of_mem hx
  obtain⟨y,hy,e⟩:=List.mem_map.1 hx'
  obtain⟨k1,k2,k3⟩:=CQ (K:=K) G.rep.inj G.rep.l0 G.nz h3 (G.rep.hk y hy)
  exact⟨qU ms y,by rw[h1,<-e,k1],k3 h2,k2⟩
 ref:=fun met a k ⟨ms,h1,h2,h3⟩ ha hk=>by
  rw[h1]at ha
  obtain⟨n,hn,rfl⟩:=List.mem_map.1 ha
  have hKn:=h3 n hn
  have hx':s.now (aQ s.ws (loc n) k)∈(N n).ptrs.map loc:=by
   rw[<-G.FT hKn]
   exact List.mem_map.2 ⟨k,List.mem_range.2 hk,rfl⟩
  obtain⟨y,hy,e⟩:=List.mem_map.1 hx'
  obtain⟨k1,k2,k3⟩:=CQ (K:=K) G.rep.inj G.rep.l0 G.nz h3 (G.rep.pk n hKn y hy)
  exact⟨qU ms y,by rw[h1,<-e,k1],k3 h2,k2⟩
 len:=fun met ⟨ms,h1,h2,h3⟩=>by
  rw[h1,List.length_map]
  exact wW h2 (fun x hx=>by have:=hM x (h3 x hx);omega)
end
def a_.LG(g:a_):List Int:=IL (gN g) g.hs (g.nodes.length+1)
def a_.qF(g:a_):List qB:=g.LG.map (LD (gN g) g.LG)
def a_.xx(g:a_):List Int:=g.hs.map (jX g.LG)
theorem yE{s:af}{c:gX}{g:a_}(R:lG s c g): ∃Ok,yt s g.nodes.length Ok/\ (s.oQ (g.nodes.length+1)).length<=g.nodes.length/\
  (s.oQ (g.nodes.length+1)).map (s.yu (s.oQ (g.nodes.length+1)))=g.qF/\ (s.t.map fun x=>jX (s.oQ (g.nodes.length+1)) (s.now x))=g.xx/\s.t.length=g.hs.length:=by
 obtain⟨cur,az,K,loc,G,hk⟩:=R.good
 obtain⟨h1,h2,h3⟩:=G.live (g.nodes.length+1)
 refine⟨G.Ok,G.Tt hk, ?_, ?_, ?_,G.rep.hl.symm⟩
 ·rw[h1,List.length_map]
  exact wW h3 (fun x hx=>by have:=hk x (h2 x hx);omega)
 ·rw[h1,List.map_map]
  unfold a_.qF a_.LG
  apply List.map_congr_left
  intro n hn
  exact G.QG h2 (h2 n hn)
 ·rw[h1]
  exact G.QH h2
end Go.Proofs.YtibemcgdmembeaaGreat
namespace Go.Proofs.YtibemcgdmembeaaGreat
open Go.RowKit
theorem uu(c:gX)(hb:c.ok=true)(w:World):
  Calls Tryz.prog 17 #[.agg (aN c)] w fun e w'=> ∃ph pc L h',e= .returned (.tuple #[.pointer (some ⟨ph,0,none⟩), .int .i64 0])/\ah pc L (gJ c) h'/\aj [] ((ph,aC pc)::h') w w':=by
 have UA:=aj.alloc (In.nil w) (.cells (aN c) 23 (0,0))
 have hcn:=fun W=>PG c hb W
 obtain⟨g0,g1,g2,g3,g4,g5,g6,g7,g8,g9,g10,g11,g12⟩:=dY UA.au.head
 simp only[aN]at*
 go_enter Tryz.func17,Tryz.ntmps17
 go_wp2_with(go_at_call 47;refine Calls.mono (hcn _) ?_;rintro e w1 ⟨pc,L,h1,rfl,c1,u1⟩;have U1:=Lib.hid (UA.drop1.trans u1);have C1:=Lib.hid c1;clear u1 c1;simp only[ptr])
 go_ret2
 exact⟨_,pc,L,h1,rfl,C1.out,U1.out.alloc' (aC pc)⟩
theorem ve(ph pc:Nat)(w:World)(hb:w.heap[ph]? =some (aC pc)):
  Calls Tryz.prog 23 #[.pointer (some ⟨ph,0,none⟩)] w fun e w'=>e= .returned (ptr pc)/\w'=w:=by
 have c0:=cell_of hb 0
 simp only[ptr]at*
 go_enter Tryz.func23,Tryz.ntmps23
 go_wp2
 go_ret
 exact⟨by first|rfl|trivial,by first|rfl|trivial⟩
end Go.Proofs.YtibemcgdmembeaaGreat
namespace Go.Proofs.YtibemcgdmembeaaGreat
open Go.RowKit
theorem EH{s:af}{c:gX}{g:a_}(R:lG s c g):g.qF.length<=g.nodes.length/\ (∀n∈g.qF,n.ptrs.length<=64/\n.iD.length<=64)/\g.xx.length=s.t.length:=by
 obtain⟨cur,az,K,loc,G,hk⟩:=R.good
 obtain⟨h1,h2,h3⟩:=G.live (g.nodes.length+1)
 refine⟨?_, ?_, ?_⟩
 ·unfold a_.qF
  rw[List.length_map]
  exact wW h3 (fun x hx=>by have:=hk x (h2 x hx);omega)
 ·intro n hn
  obtain⟨m,hm,rfl⟩:=List.mem_map.1 hn
  have hK:=h2 m hm
  obtain⟨b1,b2,b3,b4,b5⟩:=aA s.ws (loc m)
  have hsz:=G.rep.sz m hK
  have hpn:=G.rep.pn m hK
  unfold LD
  simp only[List.length_map]
  omega
 ·unfold a_.xx
  rw[List.length_map,G.rep.hl]
theorem In.blocks{W:World}{rows:List iK}{r:iK}(hi:In W (rows.flatMap iK.blocks))(hr:r∈rows):In W r.hp/\In W r.hs:=by
 have hs:r.blocks.Sublist (rows.flatMap iK.blocks):=by
  obtain⟨a,b,rfl⟩:=List.append_of_mem hr
  rw[List.flatMap_append,List.flatMap_cons]
  exact(List.sublist_append_left _ _).trans (List.sublist_append_right _ _)
 have:=hi.sub hs
 exact⟨this.left,this.right⟩
theorem Aq(pc:Nat)(L:aX){s:af}{c:gX}{g:a_}(R:lG s c g)(hb:g.nodes.length<=1000000)(w:World)(h:Hp)(hi:In w h)(hc:ah pc L s h):
  Calls Tryz.prog 22 #[ptr pc] w fun e w'=> ∃v1 v2 hx h',e= .returned (.tuple #[v1,v2])/\ah pc L s h'/\aj h (hx++h') w w'/\ ∀W,In W hx->mV W v1 g.qF/\pK W v2 g.xx:=by
 obtain⟨Ok,m1,m2,m3,m4,m5⟩:=yE R
 refine(Kq pc L s g.nodes.length hb Ok m1 _ rfl m2 w h hi hc).mono ?_
 rintro e w' ⟨v1,v2,rows,hn,hh,h',rfl,s1,ok,e1,s2,c2,u2⟩
 rw[m3]at e1
 rw[m4]at s2
 refine⟨v1,v2,(hn++rows.flatMap iK.blocks)++hh,h',rfl,c2,by rw[List.append_assoc];exact u2,fun W hW=>⟨⟨rows,hn,s1,hW.left.left,fun r hr=>⟨ok r hr,In.blocks hW.left.right hr⟩,e1⟩,⟨hh, ?_,hW.right⟩⟩⟩
 have:g.xx.length=s.t.length:=(EH R).2.2
 rw[this]
 exact s2
theorem Ot(g:a_)(x:lM):(oh g x).nodes.length<=g.nodes.length+1:=by
 unfold oh
 repeat' split
 all_goals first
  | (unfold a_.make;simp;done)
  | (unfold a_.get;simp;done)
  | (unfold a_.set a_.Iq;simp;done)
  | (unfold a_.write a_.Iq;simp;done)
  |simp
theorem EI{s:af}{c:gX}{g:a_}(R:lG s c g)(x:lM):
  ((x.kind≠1∨(jc s x).e=0)-> ∃g',lG (jS s x) c g'/\g'.nodes.length<=g.nodes.length+1)/\
  (x.kind=1->(jc s x).yes=false/\ (jc s x).n=0/\ (jc s x).v=0/\ ((jc s x).e≠0->lG (jS s x) c g)):=by
 obtain⟨r1,r2⟩:=rel_step R x
 refine⟨fun h=>⟨oh g x,(r2 (fun⟨h1,h2⟩=> ?_)).1,Ot g x⟩,fun h=>⟨by simp[jc,h],by simp[jc,h],by simp[jc,h],fun he=> ?_⟩⟩
 ·rcases h with h|h
  ·exact h h1
  ·rw[h]at h2;cases h2
 ·by_cases h7:(jc s x).e=7
  ·exact r1 ⟨h,h7⟩
  ·obtain⟨q1,q2⟩:=r2 (fun hh=>h7 hh.2)
   have e1:QE x (jc s x)=jc s x:=if_neg (by rw[h];decide)
   have e2:QD g x=Qn g x:=if_neg (by rw[h];decide)
   rw[e1,e2]at q2
   have e3:(Qn g x).e=g.gI x.a x.b x.c:=by simp[Qn,h]
   have e4:oh g x=g:=by
    unfold oh
    rw[if_pos h,if_neg]
    rw[<-e3,<-q2]
    exact he
   rw[e4]at q1
   exact q1
end Go.Proofs.YtibemcgdmembeaaGreat
namespace Go.Proofs.YtibemcgdmembeaaGreat
open Go.RowKit
def zO(page n:Int):Int:=if qI page n then dS page n*page else wK n
theorem Kw(page n:Int)(w:World)(h1:1<=n)(h2:n<=66)(h3:16<=page)(h4:page<=1048576):
  Calls Tryz.prog 76 #[.int .i64 page, .int .i64 n] w fun e w'=>e= .returned (.int .i64 (zO page n))/\aj [] [] w w':=by
 have hl:=fun W=>zk page n W h2 (by omega) h4
 have hp:=fun W=>qh page n W h1 h2 h3 h4
 have hr:=fun W=>uF n W h2
 obtain⟨y1,y2,_⟩:=fU (page:=page) h1 h2 h3
 have p0:0<=dS page n*page:=Int.mul_nonneg (by omega) (by omega)
 have p1:dS page n*page<=6*1048576:=Int.mul_le_mul (by omega) (by omega) (by omega) (by omega)
 have hw:IntKind.i64.wrap (dS page n*page)=dS page n*page:=IntWalk.i64_in _ (by omega)
 have hmx:max page 0=page:=by omega
 unfold zO
 by_cases hb:qI page n=true
 ·rw[hb]at hl⊢
  rw[if_pos rfl]
  clear hb hr
  generalize dS page n=q at*
  go_enter Tryz.func76,Tryz.ntmps76
  go_wp2_with(first
   | (go_at_call 123;refine Calls.mono (hl _) ?_;rintro e w1 ⟨rfl,rfl⟩)
   | (go_at_call 87;refine Calls.mono (hp _) ?_;rintro e w2 ⟨rfl,k,rfl⟩))
  try rw[hmx]
  try rw[hw]
  go_ret
  exact⟨by first|rfl|(simp[hmx,hw]),aj.drewN (In.nil _) k⟩
 ·have hb':qI page n=false:=by simpa using hb
  rw[hb']at hl⊢
  rw[if_neg (by decide)]
  clear hb hb' hp p0 p1 hw y1 y2
  go_enter Tryz.func76,Tryz.ntmps76
  go_wp2_with(first
   | (go_at_call 123;refine Calls.mono (hl _) ?_;rintro e w1 ⟨rfl,rfl⟩)
   | (go_at_call 124;refine Calls.mono (hr _) ?_;rintro e w2 ⟨rfl,rfl⟩))
  go_ret
  exact⟨by first|rfl|trivial,aj.refl (In.nil _)⟩
def af.oL(s:af)(a:Int):Int:=if(ag s.ws a).old then 0 else(ag s.ws a).words
def af.zS(s:af)(a:Int):Int:=if(ag s.ws a).old then zO s.C.page (ag s.ws a).words else 0
theorem ah.Xh{pc:Nat}{L:aX}{s:af}{x h:Hp}{w:World}(hc:ah pc L s h)(hi:In w (x++h)):w.cell? ⟨pc,3,none⟩=some (.int .i64 s.C.page):=by
 obtain⟨v,ha,hy,ho,hr,hg,ht,hw,rfl,ca,cy,co,cr,cg,ct,cw⟩:=hc
 exact cell_of (In.core hi) 3
theorem FU(f:Int->Int)(B:Int)(hf: ∀a,0<=f a/\f a<=B): ∀l:List Int,0<=lY (l.map f)/\lY (l.map f)<=B*l.length
 |[]=>by simp[lY]
 |a::l=>by
  obtain⟨h1,h2⟩:=FU f B hf l
  obtain⟨h3,h4⟩:=hf a
  have e:B*((a::l).length:Int)=B*l.length+B:=by
   rw[List.length_cons,Int.natCast_add,Int.mul_add]
   simp
  rw[e]
  simp only[List.map_cons,lY]
  omega
theorem QI{page n:Int}(h1:1<=n)(h2:n<=66)(h3:16<=page)(h4:page<=1048576):0<=zO page n/\zO page n<=6291456:=by
 obtain⟨y1,y2,_⟩:=fU (page:=page) h1 h2 h3
 have p0:0<=dS page n*page:=Int.mul_nonneg (by omega) (by omega)
 have p1:dS page n*page<=6*1048576:=Int.mul_le_mul (by omega) (by omega) (by omega) (by omega)
 obtain⟨b1,b2⟩:=sD n
 unfold zO
 split
 ·omega
 ·constructor<;>omega
theorem IW(pc:Nat)(L:aX)(s:af)(M:Nat)(hM:M<=1000000)(Ok:List Int->Prop)(hO:yt s M Ok)(LV:List Int)(Vx:LV=s.oQ (M+1))(hLn:LV.length<=M)(hp1:16<=s.C.page)(hp2:s.C.page<=1048576)(w:World)(h:Hp)(hi:In w h)(hc:ah pc L s h):
  Calls Tryz.prog 37 #[ptr pc] w fun e w'=>e= .returned (.tuple #[.int .i64 (lY (LV.map s.oL)), .int .i64 (lY (LV.map s.zS))])/\ ∃h',ah pc L s h'/\aj h h' w w':=by
 have hlive:=yF pc L s M hM Ok hO w h hi hc
 rw[<-Vx]at hlive
 clear Vx hO
 have NJ:=Lib.hid (fun a W h (hW:In W h) (hc:ah pc L s h)=>kY pc L s a W h hW hc)
 have HYb:Hid (∀k,0<=lY ((LV.take k).map s.oL)/\lY ((LV.take k).map s.oL)<=66000000):=Lib.hid (fun k=>by
  obtain⟨h1,h2⟩:=FU s.oL 66 (fun a=>by
   have hG:(ag s.ws a).Good:=dU _
   obtain⟨g1,g2,_⟩:=hG
   unfold af.oL Hd.words
   split<;>omega) (LV.take k)
  have h3:(LV.take k).length<=LV.length:=List.length_take_le' ..
  omega)
 have HOb:Hid (∀k,0<=lY ((LV.take k).map s.zS)/\lY ((LV.take k).map s.zS)<=6291456000000):=Lib.hid (fun k=>by
  obtain⟨h1,h2⟩:=FU s.zS 6291456 (fun a=>by
   have hG:(ag s.ws a).Good:=dU _
   obtain⟨g1,g2,_⟩:=hG
   unfold af.zS
   split
   ·exact QI (by unfold Hd.words;omega) (by unfold Hd.words;omega) hp1 hp2
   ·omega) (LV.take k)
  have h3:(LV.take k).length<=LV.length:=List.length_take_le' ..
  omega)
 have HSn:Hid (∀k,k<LV.length->lY ((LV.take (k+1)).map s.oL)=lY ((LV.take k).map s.oL)+s.oL (LV.getD k 0)/\lY ((LV.take (k+1)).map s.zS)=lY ((LV.take k).map s.zS)+s.zS (LV.getD k 0)):=Lib.hid (fun k hk=>by
  rw[take_snoc 0 hk,List.map_append,List.map_append,zl,zl]
  simp[lY])
 obtain⟨n,hn⟩: ∃n,n=LV.length:=⟨_,rfl⟩
 rw[<-hn]at hLn hlive
 have HLn:=Lib.hid hn.symm
 clear hn hi hc
 simp only[ptr]at*
 go_enter Tryz.func37,Tryz.ntmps37
 go_wp2_with(go_at_call 38;refine Calls.mono hlive ?_;rintro e w5 ⟨v5,hl,hc5,rfl,s5,c5,u5⟩;have XL:=Lib.hid s5;(have H5:Hid (∃h',ah pc L s h'/\aj h (hl++h') w w5):=Lib.hid ⟨hc5,c5,u5⟩);obtain⟨ao5,cap5,rfl,hcap5⟩:=s5.shape;clear s5 c5 u5 hlive)
 go_loopw [2,3,10] (fun y o i wr=> ∃(j:Nat),j<=n/\i= .int .i64 j/\y= .int .i64 (lY ((LV.take j).map s.oL))/\o= .int .i64 (lY ((LV.take j).map s.zS))/\Hid (∃h',ah pc L s h'/\aj h (hl++h') w wr)) (fun _ _ i _=>n-(intOf i).toNat)
 case atStart=>exact⟨0,by omega,rfl,by simp[lY],by simp[lY],H5⟩
 case round=>
  obtain⟨j,hj,rfl,rfl,rfl,HJ⟩:=hrel
  clear H5
  obtain⟨h',c1,u1⟩:=HJ.out
  have VA:=HYb.out (j+1)
  have VB:=HOb.out (j+1)
  have HY1:=HYb.out j
  have HO1:=HOb.out j
  by_cases hjn:j<n
  ·obtain⟨gb,off,rfl,hcj⟩:=aK.nH (kd:= .i64) XL.out u1.au.left hjn
   obtain⟨z1,z2⟩:=HSn.out j (by rw[HLn.out];exact hjn)
   rw[z1]at VA
   rw[z2]at VB
   generalize LV.getD j 0=a at*
   have hhd:=NJ.out a wr h' u1.au.right c1
   have hG:(ag s.ws a).Good:=dU _
   have hwd:=fun W=>mM (ag s.ws a) hG W
   obtain⟨g1,g2,_⟩:=hG
   have hcl:=fun W=>Kw s.C.page (ag s.ws a).words W (by unfold Hd.words;omega) (by unfold Hd.words;omega) hp1 hp2
   have e1:s.oL a=if(ag s.ws a).old then 0 else(ag s.ws a).words:=rfl
   have e2:s.zS a=if(ag s.ws a).old then zO s.C.page (ag s.ws a).words else 0:=rfl
   rw[e1]at z1 VA
   rw[e2]at z2 VB
   generalize lY ((LV.take j).map s.oL)=Y at*
   generalize lY ((LV.take j).map s.zS)=O at*
   generalize ag s.ws a=Hh at*
   generalize hWd:Hh.words=wd at*
   generalize zO s.C.page wd=cl at*
   have HZ:=Lib.hid (And.intro z1 z2)
   have HU:=Lib.hid u1
   clear z1 z2 e1 e2 u1 c1 HJ hWd
   cases hold:Hh.old
   ·rw[hold]at HZ VA VB
    simp only[Bool.false_eq_true,if_false,Int.add_zero]at HZ VA VB
    have hw:IntKind.i64.wrap (Y+wd)=Y+wd:=IntWalk.i64_in _ (by omega)
    obtain⟨x1,x2,x3,x4,x5,x6,x7⟩:=Hh
    simp only at hold
    subst hold
    simp only[aF]at hhd hwd
    go_wp2_with(first
     | (go_at_call 59;refine Calls.mono hhd ?_;rintro e w6 ⟨rfl,h6,c6,u6⟩;have U6:=Lib.hid (aj.dP HU.out u6);have C6:=Lib.hid c6;clear u6 c6 hhd)
     | (go_at_call 77;refine Calls.mono (hwd _) ?_;rintro e w7 ⟨rfl,u7⟩;have U7:=Lib.hid ((U6.out.skip' _).dK u7);clear u7))
    go_roundw
    case rel=>exact⟨j+1,by omega,by go_num,by rw[HZ.out.1],by rw[HZ.out.2],Lib.hid ⟨h6,C6.out,U7.out⟩⟩
    case measure=>simp[intOf];omega
   ·rw[hold]at HZ VA VB
    simp only[if_true,Int.add_zero]at HZ VA VB
    have hw:IntKind.i64.wrap (O+cl)=O+cl:=IntWalk.i64_in _ (by omega)
    have hSS: ∀W B h1,ah pc L s h1->(∀(x1 x2 x3 x4:Int) (x5 x6:Bool),In W ((B, .cells (aF ⟨x1,x2,x3,x4,x5,x6,true⟩) 92 (0,0))::(hl++h1))->W.cell? ⟨pc,3,none⟩=some (.int .i64 s.C.page)/\W.cell? ⟨B,0,none⟩=some (.int .i64 x1)/\W.cell? ⟨B,1,none⟩=some (.int .i64 x2)/\W.cell? ⟨B,2,none⟩=some (.int .i64 x3)/\W.cell? ⟨B,3,none⟩=some (.int .i64 x4)/\W.cell? ⟨B,4,none⟩=some (.bool x5)/\W.cell? ⟨B,5,none⟩=some (.bool x6)/\W.cell? ⟨B,6,none⟩=some (.bool true)):=fun W B h1 hc x1 x2 x3 x4 x5 x6 hi=>by
     obtain⟨d0,d1,d2,d3,d4,d5,d6⟩:=bW hi.head
     exact⟨ah.Xh (x:=(B, .cells (aF ⟨x1,x2,x3,x4,x5,x6,true⟩) 92 (0,0))::hl) hc hi,d0,d1,d2,d3,d4,d5,d6⟩
    have Zj:=Lib.hid hSS
    clear hSS
    obtain⟨x1,x2,x3,x4,x5,x6,x7⟩:=Hh
    simp only at hold
    subst hold
    simp only[aF]at hhd hwd
    go_wp2_with(go_at_call 59;refine Calls.mono hhd ?_;rintro e w6 ⟨rfl,h6,c6,u6⟩;have U6:=Lib.hid ((aj.dP HU.out u6).alloc' (.cells (aF ⟨x1,x2,x3,x4,x5,x6,true⟩) 92 (0,0)));have C6:=Lib.hid c6;clear u6 c6 hhd)
    have hS0:=Zj.out _ _ _ C6.out _ _ _ _ _ _ U6.out.drew'.au
    simp only[aF]at hS0
    go_region_held3 (fun w'=>w'.cell? ⟨pc,3,none⟩=some (.int .i64 s.C.page)/\w'.cell? ⟨w6.heap.size,0,none⟩=some (.int .i64 x1)/\w'.cell? ⟨w6.heap.size,1,none⟩=some (.int .i64 x2)/\w'.cell? ⟨w6.heap.size,2,none⟩=some (.int .i64 x3)/\w'.cell? ⟨w6.heap.size,3,none⟩=some (.int .i64 x4)/\w'.cell? ⟨w6.heap.size,4,none⟩=some (.bool x5)/\w'.cell? ⟨w6.heap.size,5,none⟩=some (.bool x6)/\w'.cell? ⟨w6.heap.size,6,none⟩=some (.bool true))
     (first|with_reducible exact hS0|with_reducible exact RF|with_reducible exact hS7|go_keep)
     (first
      | (go_at_call 77;refine Calls.mono (hwd _) ?_;rintro e w7 ⟨rfl,u7⟩;have U7:=Lib.hid (U6.out.drew'.dK u7);have hS7:=Zj.out _ _ _ C6.out _ _ _ _ _ _ U7.out.au;clear u7)
      | (go_at_call 76;refine Calls.mono (hcl _) ?_;rintro e w8 ⟨rfl,u8⟩;have U8:=Lib.hid (U7.out.dK u8);have RF:=Zj.out _ _ _ C6.out _ _ _ _ _ _ U8.out.au;clear u8))
    go_wp2
    go_roundw
    case rel=>exact⟨j+1,by omega,by go_num,by rw[HZ.out.1],by rw[HZ.out.2],Lib.hid ⟨h6,C6.out,U8.out.drop1⟩⟩
    case measure=>simp[intOf];omega
  ·have e1:LV.take j=LV:=List.take_of_length_le (by rw[HLn.out];omega)
   rw[e1]
   have HU:=Lib.hid u1
   have HC:=Lib.hid c1
   clear u1 c1 HJ e1 HY1 VA HO1 VB
   go_wp2
   go_ret2
   exact⟨by first|rfl|trivial,h',HC.out,HU.out.forget (List.sublist_append_right hl _)⟩
end Go.Proofs.YtibemcgdmembeaaGreat
namespace Go.Proofs.YtibemcgdmembeaaGreat
open Go.RowKit
def fO(a b c d:Int):gX where
 handles:=a % 5+2
 aU:=24+b % 60
 pages:=b/16 % 12+1
 page:=16+16*(a/64)
 card:=if c % 3=0 then 16+16*(a/64)else if c % 3=1 then(16+16*(a/64))/2 else(16+16*(a/64))/4
 buffer:=c/4 % 4
 stack:=c/16 % 4+1
 d_:=c/64 % 3+1
 largest:=d % 8+1
 minor:=d/8 % 8
 major:=d/64*2
 dH:=12+a % 8
 dm:=b % 3 % 2
def U8(x:Int):Prop:=0<=x/\x<256
end Go.Proofs.YtibemcgdmembeaaGreat
namespace Go.Proofs.YtibemcgdmembeaaGreat
open Go.ChangeShapes Go.WideShapes Go.ChangeAt Go.RowKit Go.Joins Go.Deep
theorem Tryz.own:ownKnob Tryz.prog.godebug=none:=by kernel_rfl
theorem Tryz.laidOut:laidOutB Tryz.prog=true:=by kernel_rfl
section
variable{H:Type}{enc:TypeId×Value->H}{P:Program}{w:World}{base:Nat}{spare:Nat->Bool}{held:Bool}
theorem yA{t e:TypeId}{fs:Array Field}{fuel:Nat}{cs:List Value}{x:DataW H×List MemPlace}(ht:P.underlying t=some (.slice e))(he:P.underlying e=some (.struct fs))
  (hone:oneCellFields P fs=true)(hC:P.cellsOf e=fs.size)(h:DataW.trod enc P w base spare held fuel t cs=some x):
  (cs=[.slice none 0 0]/\x=(.nil,[]))∨
  ∃(a:Addr) (len cap m:Nat) (D:Nat->DataW H) (Pl:Nat->List MemPlace),cs=[.slice (some a) len cap]/\base<=a.block/\len<=cap/\cap<=maxLen/\m=(if spare a.block then cap else len)/\
   x=(.slice ((List.range len).map D) ((List.range (m-len)).map fun j=>D (len+j)),MemPlace.row a (m*fs.size)++(List.range m).flatMap Pl)/\
   ∀i,i<m-> ∃(ys:List (DataW H×List MemPlace)) (n:Nat),D i= .agg (ys.map (·.1))/\Pl i=ys.flatMap (·.2)/\ys.length=fs.size/\
    ∀(j:Nat) (f:Field),fs[j]? =some f-> ∃(v:Value) (y:DataW H×List MemPlace),w.cell? (a.add (i*fs.size+j))=some v/\ys[j]? =some y/\DataW.trod enc P w base spare held n f.type [v]=some y:=by
 rcases open_slice ht h with h0|⟨a,len,cap,m,n,D,Pl,hcs,hb,hl,hm,hmm,hx,hi⟩
 ·exact .inl h0
 ·refine .inr ⟨a,len,cap,m,D,Pl,hcs,hb,hl,hm,hmm,by rw[hC]at hx;exact hx,fun i him=> ?_⟩
  obtain⟨cs',hc,ht'⟩:=hi i him
  rw[hC]at hc
  obtain⟨ys,n',hn',hy,hlen,hyl,hf⟩:=DataW.trod_struct he ht'
  obtain⟨_,hcl,hat⟩:=World.cells?_some hc
  simp only[Prod.mk.injEq]at hy
  refine⟨ys,n',hy.1,hy.2,hyl,fun j f hj=> ?_⟩
  obtain⟨ho,hk⟩:=hone_of hone j f hj
  have hjl:j<fs.size:=(Array.getElem?_eq_some_iff.1 hj).1
  have hcell:=hat j hjl
  have hv:cs'[j]? =some (cs'[j]'(by omega)):=List.getElem?_eq_getElem (by omega)
  have h1:=hf j f hj
  rw[ho,hk]at h1
  have hone':(cs'.drop j).take 1=[cs'[j]'(by omega)]:=by
   rw[List.drop_eq_getElem_cons (by omega)]
   rfl
  rw[hone']at h1
  have hys:ys[j]? =some (ys[j]'(by omega)):=List.getElem?_eq_getElem (by omega)
  refine⟨_,_, ?_,hys,h1.trans hys⟩
  rw[<-Go.Deep.add_add,hcell,hv]
end
theorem Tu{α:Type}{P:Nat->α->Prop}: ∀(n:Nat),(∀i,i<n-> ∃x,P i x)-> ∃l:List α,l.length=n/\ ∀i (h:i<l.length),P i l[i]:=by
 intro n
 induction n with
 |zero=>intro _;exact⟨[],rfl,fun i h=>by simp at h⟩
 |succ n ih=>
  intro h
  obtain⟨l,hl,hp⟩:=ih fun i hi=>h i (by omega)
  obtain⟨x,hx⟩:=h n (by omega)
  refine⟨l++[x],by simp[hl],fun i hi=> ?_⟩
  rw[List.getElem_append]
  split
  ·exact hp i _
  ·rename_i hge
   simp at hi
   have:i=n:=by omega
   subst this
   simpa[hl]using hx
theorem zQ{H:Type}{enc:TypeId×Value->H}{P:Program}{f:Func}{s:ChangeSpec}{apart fresh handsOn:Bool}{W W':World}{args:Array Value}{v:Value}{ds gs:List (DataW H)}{before pa pv:List MemPlace}
  (hW:DataW.Whole enc P f.params.toList s.vars apart W args.toList ds gs before)
  (hres: ∀(b:Nat) (sp:Nat->Bool) (hd:Bool),DataW.TrodAll enc P W' b sp hd f.resultTypes.toList (v.resultList f.resultTypes.size) (s.fn H (ds++gs)).results [])
  (hargs:DataW.TrodAll enc P W' 0 (fun b=>decide (b<W.heap.size)) true f.params.toList args.toList (s.fn H (ds++gs)).args pa)
  (hvars: ∀sp:Nat->Bool,(∀p∈before,sp p.block=true)->DataW.TrodVars enc P W' sp s.vars (s.fn H (ds++gs)).vars pv)
  (hps:before=pa++pv)(hk:W.keptBut W' (· ∈before)):s.post enc P f apart fresh handsOn false W args v W':=by
 have hold: ∀p∈before,(fun b=>decide (b<W.heap.size)) p.block=true:=fun p hp=>by simpa using hW.lt p hp
 refine⟨ds,gs,before,[],pa,pv,hW,hres _ _ _,hargs,hvars _ hold,World.keptBut_mono (fun p hp=>⟨hp, ?_⟩) hk,fun hc=>by cases hc⟩
 rw[hps,List.mem_append]at hp
 exact Or.inr hp
theorem LJ{x:Int}(h:(Lit.int .u8 x).wf=true):U8 x:=by
 simp[Lit.wf,IntKind.min,IntKind.max,IntKind.signed,IntKind.bits]at h
 unfold U8
 omega
theorem IX{x:Int}(h:(Lit.int .u64 x).wf=true):C_ x:=by
 simp[Lit.wf,IntKind.min,IntKind.max,IntKind.signed,IntKind.bits]at h
 unfold C_
 omega
theorem r_{x:Int}(h:(Lit.int .i64 x).wf=true):I64 x:=by
 simp[Lit.wf,IntKind.min,IntKind.max,IntKind.signed,IntKind.bits]at h
 unfold I64
 omega
theorem Ar{a b c d:Int}(ha:U8 a)(hb:U8 b)(hc:U8 c)(hd:U8 d):(fO a b c d).ok=true:=by
 obtain⟨a1,a2⟩:=ha
 obtain⟨b1,b2⟩:=hb
 obtain⟨c1,c2⟩:=hc
 obtain⟨d1,d2⟩:=hd
 have h4:a/64=0∨a/64=1∨a/64=2∨a/64=3:=by omega
 have h3:c % 3=0∨c % 3=1∨c % 3=2:=by omega
 have hpc:1<=(fO a b c d).card/\ (fO a b c d).card<=(fO a b c d).page/\ (fO a b c d).page % (fO a b c d).card=0:=by
  simp only[fO]
  rcases h4 with h4|h4|h4|h4<;>rcases h3 with h3|h3|h3<;>simp[h4,h3]
 simp only[gX.ok,gX.sizes,gX.rows,gX.KU,Bool.and_eq_true,within_iff,decide_eq_true_eq]
 refine⟨⟨⟨⟨⟨?_,hpc.1,hpc.2.1⟩,hpc.2.2⟩, ?_⟩, ?_⟩, ?_⟩<;>simp only[fO]<;>omega
end Go.Proofs.YtibemcgdmembeaaGreat
namespace Go.Proofs.YtibemcgdmembeaaGreat
open Go.ChangeShapes Go.WideShapes Go.ChangeAt Go.RowKit Go.Joins Go.Deep
structure xy(w:World)(v:Value)(l:List lM):Prop where
 fits: ∀x∈l,(Lit.int .i64 x.kind).wf=true/\ (Lit.int .i64 x.a).wf=true/\ (Lit.int .i64 x.b).wf=true/\ (Lit.int .i64 x.c).wf=true/\ (Lit.int .u64 x.v).wf=true
 len:l.length<=9223372036854775807
 shape: ∃ao cap,v= .slice ao l.length cap/\ ∀i (h:i<l.length),∃b off,ao=some ⟨b,off,none⟩/\b<w.heap.size/\
  w.cell? ⟨b,off+i*5,none⟩=some (.int .i64 l[i].kind)/\w.cell? ⟨b,off+i*5+1,none⟩=some (.int .i64 l[i].a)/\w.cell? ⟨b,off+i*5+2,none⟩=some (.int .i64 l[i].b)/\w.cell? ⟨b,off+i*5+3,none⟩=some (.int .i64 l[i].c)/\w.cell? ⟨b,off+i*5+4,none⟩=some (.int .u64 l[i].v)
theorem Ky{H:Type}{enc:TypeId×Value->H}{w:World}{v:Value}{d:DataW H}{p:List MemPlace}{r:Reach}{b0:Nat}
  (hv:Value.okWide Tryz.prog w r b0 24 v)(h:DataW.Trod enc Tryz.prog w 0 (fun _=>true) true 24 v d p): ∃l,xy w v l:=by
 obtain⟨a0,len0,cap0,rfl⟩:=okWide_slice Tryz.underlying24 hv
 obtain⟨fuel,hf⟩:=h
 rcases yA Tryz.underlying24 Tryz.underlying38 (by kernel_rfl) (by kernel_rfl) hf with⟨hcs,_⟩|⟨a,len,cap,m,D,Pl,hcs,_,hl,hm,hmm,_,hi⟩
 ·simp[Value.cells]at hcs
  obtain⟨rfl,rfl,rfl⟩:=hcs
  exact⟨[],by simp,by simp,none,0,rfl,fun i h=>by simp at h⟩
 ·simp[Value.cells]at hcs
  obtain⟨rfl,rfl,rfl⟩:=hcs
  simp only[if_true]at hmm
  subst hmm
  have key: ∀i,i<len0-> ∃x:lM,((Lit.int .i64 x.kind).wf=true/\ (Lit.int .i64 x.a).wf=true/\ (Lit.int .i64 x.b).wf=true/\ (Lit.int .i64 x.c).wf=true/\ (Lit.int .u64 x.v).wf=true)/\ ∃b off,a=⟨b,off,none⟩/\b<w.heap.size/\w.cell? ⟨b,off+i*5,none⟩=some (.int .i64 x.kind)/\w.cell? ⟨b,off+i*5+1,none⟩=some (.int .i64 x.a)/\w.cell? ⟨b,off+i*5+2,none⟩=some (.int .i64 x.b)/\w.cell? ⟨b,off+i*5+3,none⟩=some (.int .i64 x.c)/\w.cell? ⟨b,off+i*5+4,none⟩=some (.int .u64 x.v):=by
   intro i hil
   obtain⟨ys,n,_,_,_,hfs⟩:=hi i (by omega)
   obtain⟨v0,y0,c0,_,t0⟩:=hfs 0 _ rfl
   obtain⟨v1,y1,c1,_,t1⟩:=hfs 1 _ rfl
   obtain⟨v2,y2,c2,_,t2⟩:=hfs 2 _ rfl
   obtain⟨v3,y3,c3,_,t3⟩:=hfs 3 _ rfl
   obtain⟨v4,y4,c4,_,t4⟩:=hfs 4 _ rfl
   obtain⟨n0,e0,_,w0⟩:=DataW.trod_int Tryz.underlying3 t0
   obtain⟨n1,e1,_,w1⟩:=DataW.trod_int Tryz.underlying3 t1
   obtain⟨n2,e2,_,w2⟩:=DataW.trod_int Tryz.underlying3 t2
   obtain⟨n3,e3,_,w3⟩:=DataW.trod_int Tryz.underlying3 t3
   obtain⟨n4,e4,_,w4⟩:=DataW.trod_int Tryz.underlying33 t4
   simp only[List.cons.injEq,and_true]at e0 e1 e2 e3 e4
   subst e0 e1 e2 e3 e4
   obtain⟨_,_,_,_,_,hz⟩:=hi 0 (by omega)
   obtain⟨_,_,cz,_,_⟩:=hz 0 _ rfl
   obtain⟨b,off,spot⟩:=a
   have hspot:spot=none:=by simpa[Addr.add]using World.cell?_spot cz
   subst hspot
   have hbl:=World.block_lt_of_cell? w _ c0
   simp only[Addr.add_lit,List.size_toArray,List.length_cons,List.length_nil,Nat.zero_add,Nat.add_zero,<-Nat.add_assoc]at c0 c1 c2 c3 c4 hbl
   exact⟨⟨n0,n1,n2,n3,n4⟩,⟨w0,w1,w2,w3,w4⟩,b,off,rfl,hbl,c0,c1,c2,c3,c4⟩
  obtain⟨l,hll,hp⟩:=Tu len0 key
  subst hll
  have hmem: ∀x∈l,(Lit.int .i64 x.kind).wf=true/\ (Lit.int .i64 x.a).wf=true/\ (Lit.int .i64 x.b).wf=true/\ (Lit.int .i64 x.c).wf=true/\ (Lit.int .u64 x.v).wf=true:=by
   intro x hx
   obtain⟨i,hi,rfl⟩:=List.getElem_of_mem hx
   exact(hp i hi).1
  refine⟨l,hmem,by unfold maxLen at hm;omega,some a,_,rfl,fun i hi=> ?_⟩
  obtain⟨_,b,off,rfl,hh⟩:=hp i hi
  exact⟨b,off,rfl,hh⟩
end Go.Proofs.YtibemcgdmembeaaGreat
namespace Go.Proofs.YtibemcgdmembeaaGreat
open Go.RowKit
def LU(ph pc:Nat)(L:aX)(C:gX)(k:Nat)(w wr:World):Prop:= ∃s g h,lG s C g/\g.nodes.length<=k+1/\ah pc L s h/\aj [] ((ph,aC pc)::h) w wr
theorem aj.jT{w w':World}{h:Hp}(u:aj [] h w w'){b o:Nat}{v:Value}(hb:b<w.heap.size)(hc:w.cell? ⟨b,o,none⟩=some v):w'.cell? ⟨b,o,none⟩=some v:=by
 rw[u.below.cell (p:=⟨b,o,none⟩) hb]
 exact hc
theorem KG{s:af}{c:gX}{g:a_}(R:lG s c g)(x:lM): ∃g',lG (jS s x) c g'/\g'.nodes.length<=g.nodes.length+1:=by
 obtain⟨r1,r2⟩:=EI R x
 by_cases h:x.kind≠1∨(jc s x).e=0
 ·exact r1 h
 ·have h1:x.kind=1:=by
   by_cases q:x.kind=1
   ·exact q
   ·exact absurd (.inl q) h
  exact⟨g,(r2 h1).2.2.2 (fun q=>h (.inr q)),Nat.le_succ _⟩
end Go.Proofs.YtibemcgdmembeaaGreat
namespace Go.Proofs.YtibemcgdmembeaaGreat
open Go.RowKit
theorem ZZ(ph pc:Nat)(L:aX){s:af}(Z:s.FO)(w:World)(h:Hp)(hi:In w ((ph,aC pc)::h))(hc:ah pc L s h):
  Calls Tryz.prog 32 #[.pointer (some ⟨ph,0,none⟩)] w fun e w'=>e= .returned (.agg (statCells s.Zr))/\ ∃h',ah pc L s h'/\aj ((ph,aC pc)::h) ((ph,aC pc)::h') w w':=by
 have adA:=(aj.refl hi).alloc' (.cells (statCells Wi) 61 (0,0))
 have h1:=Lib.hid (fun W hb=>ve ph pc W hb)
 have h2:=Lib.hid (fun W h (hi:In W h) (hc:ah pc L s h)=>aax pc L Z W h hi hc)
 have HC:=Lib.hid hc
 clear hi hc Z
 generalize s.Zr=T at*
 simp only[statCells,Wi,ptr]at adA h1 h2
 have HB:=Lib.hid adA
 clear adA
 go_enter Tryz.func32,Tryz.ntmps32
 go_wp2_with(first
  | (go_at_call 23;refine Calls.mono (h1.out _ HB.out.au.tail.head) ?_;rintro e w1 ⟨rfl,hw1⟩;obtain rfl:=hw1.symm;clear hw1)
  | (go_at_call 74;refine Calls.mono (h2.out _ _ HB.out.au.tail.tail HC.out) ?_;rintro e w2 ⟨rfl,h',c2,u2⟩;have U2:=aj.dP (x:=[(w.heap.size, .cells (statCells Wi) 61 (0,0)),(ph,aC pc)]) HB.out u2;have C2:=Lib.hid c2;clear u2 c2;obtain⟨f0,f1,f2,f3,f4,f5,f6,f7⟩:=ZB (d:=Wi) U2.au.head;obtain⟨d0,d1,d2,d3,d4,d5,d6,d7⟩:=Zq (d:=Wi) U2.au.head;simp only[Wi]at d0 d1 d2 d3 d4 d5 d6 d7;have U3:=Lib.hid (aj.stat (x:=Wi) U2 T);clear U2))
 have G:=Zq (d:=T) U3.out.au.head
 obtain⟨g0,g1,g2,g3,g4,g5,g6,g7⟩:=G
 clear d0 d1 d2 d3 d4 d5 d6 d7 f0 f1 f2 f3 f4 f5 f6 f7
 refine bodyPost_ret (v:= .agg (statCells T)) ?_ rfl ⟨rfl,h',C2.out,U3.out.drop1⟩
 simp only[results,Tryz.results32]
 simp[go_sem,statCells,g0,g1,g2,g3,g4,g5,g6,g7]
end Go.Proofs.YtibemcgdmembeaaGreat
