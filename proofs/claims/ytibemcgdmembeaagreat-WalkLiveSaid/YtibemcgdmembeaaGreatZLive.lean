/- WalkLive of package tilthlaw19 answers true: the given statement. Conditions: none. -/
import Derived.Test.YtibemcgdmembeaaGreatRows
import Derived.Test.YtibemcgdmembeaaGreatZP
import Derived.Test.YtibemcgdmembeaaGreatZL
import Derived.Test.YtibemcgdmembeaaGreatZ19
import Derived.Test.YtibemcgdmembeaaGreatZJ
import Derived.Test.YtibemcgdmembeaaGreatZD
set_option linter.unusedVariables false
set_option linter.unusedSimpArgs false
set_option maxRecDepth 100000
set_option maxHeartbeats 4000000
namespace Go.Proofs.YtibemcgdmembeaaGreat
open Go.RowKit
theorem sumI_mono{f g:Int->Int}: ∀{l:List Int},(∀a∈l,f a<=g a)->lY (l.map f)<=lY (l.map g)
 |[],_=>Int.le_refl _
 |a::l,h=>by
  have h1:=h a (List.mem_cons_self ..)
  have h2:=sumI_mono (fun b hb=>h b (List.mem_cons_of_mem _ hb))
  simp only[List.map_cons,lY]
  omega
theorem sum_sub{f:Int->Int}(hf: ∀a,0<=f a){l l':List Int}(n:l.Nodup)(n':l'.Nodup)(h: ∀a∈l',a∈l):lY (l'.map f)<=lY (l.map f)/\l'.length<=l.length:=by
 have p:(l.filter (fun a=>decide (a∈l'))).Perm l':=ZX (n.filter _) n' (fun a=>by
  rw[List.mem_filter,decide_eq_true_eq]
  exact⟨fun h=>h.2,fun ha=>⟨h a ha,ha⟩⟩)
 constructor
 ·rw[<-aa1 (p.map f),<-ZP]
  refine sumI_mono (fun a _=> ?_)
  split
  ·exact Int.le_refl _
  ·exact hf a
 ·rw[<-p.length_eq]
  exact List.length_filter_le _ _
theorem wYoung_nonneg(s:af)(a:Int):0<=s.oL a:=by
 have:=aA s.ws a
 unfold af.oL
 split<;>omega
theorem wOld_nonneg{s:af}(h:16<=s.C.page)(a:Int):0<=s.zS a:=by
 obtain⟨b1,b2,b3,b4,b5⟩:=aA s.ws a
 unfold af.zS
 split
 ·unfold zO
  split
  ·have:=fU (page:=s.C.page) (n:=(ag s.ws a).words) (by omega) (by omega) h
   exact Int.mul_nonneg (by omega) (by omega)
  ·have:=sD (ag s.ws a).words
   omega
 ·exact Int.le_refl _
section
variable{s:af}{c:gX}{cur az:List Int}{N:Int->dB}{hs:List Int}{K:Int->Prop}{loc:Int->Int}{m:Int}
theorem Good.live_reach(G:Good s cur az N hs K loc)(F:Nat): ∀n∈IL N hs F,Reach N hs n:=(G.reach.live F).2.1
theorem Reach.mono{hs':List Int}(h: ∀x∈hs',x=0∨x∈hs){n:Int}(r:Reach N hs' n):Reach N hs n:=by
 induction r with
 |hd hx h0=>exact .hd ((h _ hx).resolve_left h0) h0
 |ref _ hx h0 ih=>exact .ref ih hx h0
theorem reach_none(h: ∀j:Nat,j<hs.length->hs.getD j 0=0): ∀n,¬Reach N hs n:=by
 intro n hn
 induction hn with
 |hd hm h0=>
  obtain⟨j,hj,e⟩:=List.getElem_of_mem hm
  have:=h j hj
  rw[List.getD_eq_getElem?_getD,List.getElem?_eq_getElem hj]at this
  exact h0 (e.symm.trans this)
 |ref _ _ _ ih=>exact ih
theorem rel_hlenL{g:a_}(R:lG s c g):(g.hs.length:Int)=c.handles:=by
 obtain⟨cur,az,K,loc,G,_⟩:=R.good
 rw[G.rep.hl]
 exact R.tied.tl
def af.IL(s:af)(F:Nat):Nat:=(s.oQ F).length
def af.liveY(s:af)(F:Nat):Int:=lY ((s.oQ F).map s.oL)
def af.liveO(s:af)(F:Nat):Int:=lY ((s.oQ F).map s.zS)
theorem live_fewer{g:a_}(R:lG s c g){k:Nat}(h: ∀j:Nat,j<k->g.hs.getD j 0=0): ∃g',lG {s with t:=bP s.t k 0} c g'/\g'.nodes.length=g.nodes.length/\ (∀j:Nat,j<k+1->g'.hs.getD j 0=0)/\
  af.IL {s with t:=bP s.t k 0} (g.nodes.length+1)<=s.IL (g.nodes.length+1)/\af.liveY {s with t:=bP s.t k 0} (g.nodes.length+1)<=s.liveY (g.nodes.length+1)/\af.liveO {s with t:=bP s.t k 0} (g.nodes.length+1)<=s.liveO (g.nodes.length+1):=by
 have r:=((rel_step R ⟨6,k,0,0,0⟩).2 (fun h=>absurd (show(6:Int)=1 from h.1) (by decide))).1
 obtain⟨cur,az,K,loc,G,hk⟩:=R.good
 have G':=JM G (k:Int)
 obtain⟨e1,m1,n1⟩:=G.live (g.nodes.length+1)
 obtain⟨e2,m2,n2⟩:=G'.live (g.nodes.length+1)
 have inj: ∀{l:List Int},(∀m∈l,K m)->l.Nodup->(l.map loc).Nodup:=fun hl hn=>aaJ (fun a ha b hb h=>G.rep.inj a b (hl a ha) (hl b hb) h) hn
 have sub: ∀a∈af.oQ {s with t:=bP s.t k 0} (g.nodes.length+1),a∈s.oQ (g.nodes.length+1):=by
  intro a ha
  rw[e2]at ha
  obtain⟨n,hn,rfl⟩:=List.mem_map.1 ha
  rw[e1]
  refine List.mem_map_of_mem (acK (fun n hn=> ?_) n1 ((G'.live_reach _ n hn).mono (fun x hx=>(sV hx).symm)))
  have:=hk n (m1 n hn)
  omega
 have p:=R.tied.fits.g1
 have q:=fun f hf=>sum_sub (f:=f) hf (l:=s.oQ (g.nodes.length+1)) (l':=af.oQ {s with t:=bP s.t k 0} (g.nodes.length+1)) (by rw[e1];exact inj m1 n1) (by rw[e2];exact inj m2 n2) sub
 refine⟨_,r,rfl,fun j hj=> ?_,(q s.oL (wYoung_nonneg s)).2,(q s.oL (wYoung_nonneg s)).1,(q s.zS (wOld_nonneg (by rw[R.tied.cf];exact p))).1⟩
 show(bP g.hs (k:Int) 0).getD j 0=0
 by_cases hl:j<g.hs.length
 ·rw[zD j hl]
  split
  ·rfl
  ·exact h j (by omega)
 ·rw[List.getD_eq_getElem?_getD,List.getElem?_eq_none (by rw[nS];omega)]
  rfl
theorem live_none{g:a_}(R:lG s c g)(h: ∀j:Nat,(j:Int)<c.handles->g.hs.getD j 0=0)(F:Nat):s.IL F=0/\s.liveY F=0/\s.liveO F=0:=by
 obtain⟨cur,az,K,loc,G,hk⟩:=R.good
 obtain⟨e1,m1,n1⟩:=G.live F
 have hl:=rel_hlenL R
 have:IL (gN g) g.hs F=[]:=by
  cases hq:IL (gN g) g.hs F with
  |nil=>rfl
  |cons a l=>exact absurd (G.live_reach F a (by rw[hq];exact List.mem_cons_self ..)) (reach_none (fun j hj=>h j (by omega)) a)
 rw[this]at e1
 unfold af.IL af.liveY af.liveO
 rw[e1]
 exact⟨rfl,rfl,rfl⟩
theorem live_bound{g:a_}(R:lG s c g):s.IL (g.nodes.length+1)<=g.nodes.length:=by
 obtain⟨Ok,m1,m2,m3,m4,m5⟩:=yE R
 exact m2
end
theorem rel_wordsL(pc:Nat)(L:aX){s:af}{c:gX}{g:a_}(R:lG s c g)(hb:g.nodes.length<=1000000)(w:World)(h:Hp)(hi:In w h)(hc:ah pc L s h):
  Calls Tryz.prog 37 #[ptr pc] w fun e w'=>e= .returned (.tuple #[.int .i64 (s.liveY (g.nodes.length+1)), .int .i64 (s.liveO (g.nodes.length+1))])/\ ∃h',ah pc L s h'/\aj h h' w w':=by
 obtain⟨Ok,m1,m2,m3,m4,m5⟩:=yE R
 have hf:=R.tied.fits
 have h1:=hf.g1
 have h2:=hf.g2
 exact IW pc L s g.nodes.length hb Ok m1 _ rfl m2 (by rw[R.tied.cf];exact h1) (by rw[R.tied.cf];omega) w h hi hc
theorem rel_live(pc:Nat)(L:aX){s:af}{c:gX}{g:a_}(R:lG s c g)(hb:g.nodes.length<=1000000)(w:World)(h:Hp)(hi:In w h)(hc:ah pc L s h):
  Calls Tryz.prog 38 #[ptr pc] w fun e w'=> ∃ao cap h1 h2,e= .returned (.slice ao (s.IL (g.nodes.length+1)) cap)/\ah pc L s h2/\aj h (h1++h2) w w'/\ ∀W,In W h1->pK W (.slice ao (s.IL (g.nodes.length+1)) cap) (s.oQ (g.nodes.length+1)):=by
 obtain⟨Ok,m1,m2,m3,m4,m5⟩:=yE R
 refine(yF pc L s g.nodes.length hb Ok m1 w h hi hc).mono ?_
 rintro e w' ⟨v,h1,h2,rfl,s1,c1,u1⟩
 obtain⟨ao,cap,rfl,_⟩:=s1.shape
 exact⟨ao,cap,h1,h2,rfl,c1,u1,fun W hW=>⟨h1,s1,hW⟩⟩
end Go.Proofs.YtibemcgdmembeaaGreat
namespace Go.Proofs.YtibemcgdmembeaaGreat
open Go.RowKit
theorem sumI_takeS(f:Int->Int): ∀(l:List Int) (k:Nat),k<l.length->lY ((l.take (k+1)).map f)=lY ((l.take k).map f)+f (l.getD k 0)
 |[],k,h=>by simp at h
 |a::l,0,_=>by simp[lY]
 |a::l,k+1,h=>by
  have ih:=sumI_takeS f l k (by simpa using h)
  simp only[List.take_succ_cons,List.map_cons,lY,List.getD_cons_succ]
  omega
def af.sizeC(s:af)(a:Int):Int:=zO s.C.page (ag s.ws a).words
section
variable{s:af}{c:gX}{g:a_}
theorem live_at(R:lG s c g){i:Nat}(hi:i<s.IL (g.nodes.length+1)):
  (∃z,s.o.aH ((s.oQ (g.nodes.length+1)).getD i 0)=some z/\s.zS ((s.oQ (g.nodes.length+1)).getD i 0)=z/\s.oL ((s.oQ (g.nodes.length+1)).getD i 0)=0)∨
  (s.o.aH ((s.oQ (g.nodes.length+1)).getD i 0)=none/\ (s.y.isIn ((s.oQ (g.nodes.length+1)).getD i 0)=true∨s.y.dI ((s.oQ (g.nodes.length+1)).getD i 0)=true)/\s.zS ((s.oQ (g.nodes.length+1)).getD i 0)=0/\
   s.oL ((s.oQ (g.nodes.length+1)).getD i 0)=(g.qF.getD i nd0).ptrs.length+(g.qF.getD i nd0).iD.length+2):=by
 obtain⟨cur,az,K,loc,G,hk⟩:=R.good
 obtain⟨e,hK,hn⟩:=G.live (g.nodes.length+1)
 obtain⟨Ok,_,_,m3,_,_⟩:=yE R
 have hi':i<(s.oQ (g.nodes.length+1)).length:=hi
 have hnd:g.qF.getD i nd0=s.yu (s.oQ (g.nodes.length+1)) ((s.oQ (g.nodes.length+1)).getD i 0):=by
  rw[<-m3,List.getD_eq_getElem?_getD,List.getElem?_map,List.getElem?_eq_getElem hi',List.getD_eq_getElem?_getD,List.getElem?_eq_getElem hi']
  rfl
 rw[hnd]
 have hmem:(s.oQ (g.nodes.length+1)).getD i 0∈s.oQ (g.nodes.length+1):=fE hi'
 generalize (s.oQ (g.nodes.length+1)).getD i 0=a at*
 rw[e]at hmem
 obtain⟨n,hn2,rfl⟩:=List.mem_map.1 hmem
 have hp:=G.rep.pl n (hK n hn2)
 have hg:(ag s.ws (loc n)).Good:=dU _
 obtain⟨g1,g2,g3,_⟩:=hg
 rcases hp with h|h|⟨h,_⟩
 ·right
  obtain⟨_,h2,_⟩:=G.inv.hds.Dv _ h
  refine⟨?_, .inl (G.inv.lay.Vj h),by unfold af.zS;rw[h2];rfl, ?_⟩
  ·cases hz:s.o.aH (loc n)with
   |none=>rfl
   |some z=>
    have:=(G.inv.hds.Dw _ (by rw[hz];rfl)).2.1
    rw[h2]at this
    cases this
  ·unfold af.oL af.yu af.gV af.bQ Hd.words
   rw[h2]
   simp only[List.length_map,List.length_range,Bool.false_eq_true,if_false]
   omega
 ·left
  obtain⟨z,hz⟩:=Option.isSome_iff_exists.1 h
  have h2:=(G.inv.hds.Dw _ h).2.1
  have h3:=G.inv.lay.fit _ z hz
  refine⟨z,hz, ?_,by unfold af.oL;rw[h2];rfl⟩
  unfold af.zS
  rw[h2,if_pos rfl,h3,<-G.inv.lay.ow]
  rfl
 ·right
  obtain⟨_,h2,_⟩:=G.inv.hds.Fg _ h
  refine⟨?_, .inr (G.inv.lay.gz h),by unfold af.zS;rw[h2];rfl, ?_⟩
  ·cases hz:s.o.aH (loc n)with
   |none=>rfl
   |some z=>
    have:=(G.inv.hds.Dw _ (by rw[hz];rfl)).2.1
    rw[h2]at this
    cases this
  ·unfold af.oL af.yu af.gV af.bQ Hd.words
   rw[h2]
   simp only[List.length_map,List.length_range,Bool.false_eq_true,if_false]
   omega
theorem live_I64(R:lG s c g){i:Nat}(hi:i<s.IL (g.nodes.length+1)):I64 ((s.oQ (g.nodes.length+1)).getD i 0):=by
 obtain⟨cur,az,K,loc,G,hk⟩:=R.good
 obtain⟨e,hK,hn⟩:=G.live (g.nodes.length+1)
 have hmem:(s.oQ (g.nodes.length+1)).getD i 0∈s.oQ (g.nodes.length+1):=fE hi
 generalize (s.oQ (g.nodes.length+1)).getD i 0=a at*
 rw[e]at hmem
 obtain⟨n,hn2,rfl⟩:=List.mem_map.1 hmem
 obtain⟨p1,p2,p3,p4⟩:=G.inv.lay.pos (G.rep.pl n (hK n hn2)).kE
 exact I64.small (by omega) (by omega)
theorem live_len(R:lG s c g):g.qF.length=s.IL (g.nodes.length+1):=by
 obtain⟨Ok,_,_,m3,_,_⟩:=yE R
 rw[<-m3,List.length_map]
 rfl
theorem wOld_le(R:lG s c g)(a:Int):s.zS a<=1000000:=by
 obtain⟨b1,b2,b3,b4,b5⟩:=aA s.ws a
 have h1:=R.tied.fits.g1
 have h2:=R.tied.fits.g2
 unfold af.zS
 rw[R.tied.cf]
 split
 ·unfold zO
  split
  ·have:=fU (page:=c.page) (n:=(ag s.ws a).words) (by omega) (by omega) h1
   have h3:dS c.page (ag s.ws a).words*c.page<=66*256:=Int.mul_le_mul (by omega) h2 (by omega) (by omega)
   omega
  ·have:=sD (ag s.ws a).words
   omega
 ·omega
theorem live_nodup(R:lG s c g):(s.oQ (g.nodes.length+1)).Nodup:=by
 obtain⟨cur,az,K,loc,G,hk⟩:=R.good
 obtain⟨e,hK,hn⟩:=G.live (g.nodes.length+1)
 rw[e]
 exact aaJ (fun a ha b hb h=>G.rep.inj a b (hK a ha) (hK b hb) h) hn
theorem live_apart(R:lG s c g){i j:Nat}(hi:i<s.IL (g.nodes.length+1))(hj:j<i):(s.oQ (g.nodes.length+1)).getD i 0≠(s.oQ (g.nodes.length+1)).getD j 0:=by
 have hi':i<(s.oQ (g.nodes.length+1)).length:=hi
 rw[List.getD_eq_getElem?_getD,List.getElem?_eq_getElem hi',List.getD_eq_getElem?_getD,List.getElem?_eq_getElem (show j<(s.oQ (g.nodes.length+1)).length by omega)]
 intro e
 have:=(List.getElem_inj (live_nodup R)).1 e
 omega
theorem live_used(R:lG s c g):s.liveY (g.nodes.length+1)<=s.Zr.fG/\s.liveO (g.nodes.length+1)<=s.Zr.old:=by
 obtain⟨cur,az,K,loc,G,hk⟩:=R.good
 obtain⟨e,hK,hn⟩:=G.live (g.nodes.length+1)
 obtain⟨n1,n2,n3,n4,n5,n6,n7,n8,n9,n10⟩:=G.inv.lay.nums
 have nd:=live_nodup R
 have mem: ∀a∈s.oQ (g.nodes.length+1),a∈cur∨(s.o.aH a).isSome=true∨a∈az:=by
  intro a ha
  rw[e]at ha
  obtain⟨n,h1,rfl⟩:=List.mem_map.1 ha
  rcases G.rep.pl n (hK n h1)with h|h|h
  ·exact .inl h
  ·exact .inr (.inl h)
  ·exact .inr (.inr h.1)
 constructor
 ·have h1:s.liveY (g.nodes.length+1)=lY (((s.oQ (g.nodes.length+1)).filter fun a=> !(ag s.ws a).old).map fun a=>(ag s.ws a).words):=by
   unfold af.liveY
   rw[<-ZP]
   congr 1
   apply List.map_congr_left
   intro a _
   unfold af.oL
   cases(ag s.ws a).old<;>rfl
  have hap:(cur++az).Nodup:=List.nodup_append.2 ⟨G.inv.lay.rc.nodup,G.inv.lay.ro.nodup,fun a ha b hb hab=>by
   subst hab
   have h1:=G.inv.lay.gz hb
   rw[G.inv.lay.fK (.inl ha)]at h1
   cases h1⟩
  have h2:=(sum_sub (f:=fun a=>(ag s.ws a).words) (fun a=>by have:=aA s.ws a;show 0<=(ag s.ws a).words;omega) hap (nd.filter (fun a=> !(ag s.ws a).old)) (fun a ha=>by
   obtain⟨q1,q2⟩:=List.mem_filter.1 ha
   rcases mem a q1 with h|h|h
   ·exact List.mem_append_left _ h
   ·rw[(G.inv.hds.Dw a h).2.1]at q2
    cases q2
   ·exact List.mem_append_right _ h)).1
  rw[List.map_append,zl]at h2
  have r1:=abT G.inv.lay.rc
  have r2:=abT G.inv.lay.ro
  have h3:s.Zr.fG=s.y.cu+s.y.ou:=pq ⟨by omega,by omega⟩
  rw[h1,h3]
  omega
 ·obtain⟨a1,a2,a3⟩:=acL G.inv.lay.ov
  have h1:s.liveO (g.nodes.length+1)=lY (((s.oQ (g.nodes.length+1)).filter fun a=>(ag s.ws a).old).map s.sizeC):=by
   unfold af.liveO
   rw[<-ZP]
   rfl
  have h2:=(sum_sub (f:=s.sizeC) (fun a=>by
   have h:=wOld_nonneg (s:=s) (by rw[R.tied.cf];exact R.tied.fits.g1) a
   unfold af.sizeC zO
   obtain⟨b1,b2,b3,b4,b5⟩:=aA s.ws a
   split
   ·have:=fU (page:=s.C.page) (n:=(ag s.ws a).words) (by omega) (by omega) (by rw[R.tied.cf];exact R.tied.fits.g1)
    have hg:=R.tied.fits.g1
    exact Int.mul_nonneg (by omega) (by rw[R.tied.cf];omega)
   ·have:=sD (ag s.ws a).words
    omega) a1 (nd.filter (fun a=>(ag s.ws a).old)) (fun a ha=>by
   obtain⟨q1,q2⟩:=List.mem_filter.1 ha
   rw[a2]
   rcases mem a q1 with h|h|h
   ·rw[(G.inv.hds.Dv a h).2.1]at q2
    cases q2
   ·exact h
   ·rw[(G.inv.hds.Fg a h).2.1]at q2
    cases q2)).1
  have h3:s.Zr.old=lY ((s.o.allL s.o.pages.length).map s.sizeC):=by
   show s.o.used=_
   rw[a3]
   congr 1
   apply List.map_congr_left
   intro a ha
   obtain⟨z,hz⟩:=Option.isSome_iff_exists.1 ((a2 a).1 ha)
   have h2:=G.inv.lay.fit a z hz
   unfold aP.Zo
   rw[hz]
   show z=zO s.C.page _
   rw[h2,<-G.inv.lay.ow]
   rfl
  rw[h1,h3]
  exact h2
end
end Go.Proofs.YtibemcgdmembeaaGreat
namespace Go.Proofs.YtibemcgdmembeaaGreat
open Go.RowKit
theorem core_isIn(pc:Nat)(L:aX)(s:af)(a:Int)(w:World)(h:Hp)(hi:In w h)(hc:ah pc L s h)(ha:I64 a):
  Calls Tryz.prog 43 #[.pointer (some ⟨L.py,0,none⟩), .int .i64 a] w fun e w'=>e= .returned (.bool (s.y.isIn a))/\aj h h w w':=by
 obtain⟨v,ha',hy,ho,hr,hg,ht,hw,rfl,ca,cy,co,cr,cg,ct,cw⟩:=hc
 exact Calls.mono (KJ L.py s.y a w hy (In.fG (x:=[]) hi) cy ha) fun e w' hh=>⟨hh.1,aj.fG (x:=[]) (aj.refl hi) hh.2⟩
def LiveL(pc:Nat)(L:aX)(s:af)(ay:Hp)(w wr:World):Prop:= ∃h,ah pc L s h/\aj [] (ay++h) w wr
theorem walkLive_any(a b c d:Int)(sv:Value)(l:List lM)(ha:U8 a)(hb:U8 b)(hc:U8 c)(hd:U8 d){w:World}(hs:xy w sv l):
  Calls Tryz.prog 14 #[.int .u8 a, .int .u8 b, .int .u8 c, .int .u8 d,sv] w fun e w'=>e= .returned (.bool true)/\aj [] [] w w':=by
 have hr:=Lib.hid (VE a b c d sv l ha hb hc hd hs)
 have hcore:=Lib.hid (fun ph pc W hb=>ve ph pc W hb)
 have nP:=Lib.hid (fun pc L s c g (R:lG s c g) (hb:g.nodes.length<=1000000) W h (hi:In W h) (hc:ah pc L s h)=>rel_wordsL pc L R hb W h hi hc)
 have hlive:=Lib.hid (fun pc L s c g (R:lG s c g) (hb:g.nodes.length<=1000000) W h (hi:In W h) (hc:ah pc L s h)=>rel_live pc L R hb W h hi hc)
 have hnodes:=Lib.hid (fun pc L s c g (R:lG s c g) (hb:g.nodes.length<=1000000) W h (hi:In W h) (hc:ah pc L s h)=>Aq pc L R hb W h hi hc)
 have hst:=Lib.hid (fun ph pc L s (Z:af.FO s) W h (hi:In W ((ph,aC pc)::h)) (hc:ah pc L s h)=>ZZ ph pc L Z W h hi hc)
 clear ha hb hc hd hs
 simp only[ptr]at hcore nP hlive hnodes
 generalize fO a b c d=C at*
 go_enter Tryz.func14,Tryz.ntmps14
 go_wp2_with(first
  | (go_at_call 39;refine Calls.mono hr.out ?_;rintro e w1 ⟨ph,pc,L,s,g,h1,rfl,R,hn,c1,u1⟩;have U1:=Lib.hid u1;have C1:=Lib.hid c1;have HR:=Lib.hid R;have hle:=live_len R;clear u1 c1 R hr)
  | (go_at_call 35;refine Calls.mono (F9 _) ?_;rintro e w2 ⟨rfl,u2⟩;have U2:=Lib.hid (U1.out.dK u2);clear u2 U1)
  | (go_at_call 23;refine Calls.mono (hcore.out _ _ _ U2.out.au.head) ?_;rintro e wa ⟨rfl,XE⟩;obtain rfl:=XE.symm;clear XE)
  | (go_at_call 38;refine Calls.mono (hlive.out _ _ _ _ _ HR.out (by omega) _ _ U2.out.au.tail C1.out) ?_;rintro e w3 ⟨ao,cap,hl,h3,rfl,c3,u3,at3⟩;have U3:Hid (aj [] (((ph,aC pc)::hl)++h3) w w3):=Lib.hid (aj.iL U2.out u3);have C3:=Lib.hid c3;have A3:=Lib.hid at3;clear u3 c3 at3)
  | (go_at_call 22;refine Calls.mono (hnodes.out _ _ _ _ _ HR.out (by omega) _ _ U3.out.au.right C3.out) ?_;rintro e w4 ⟨v1,v2,hx,h4,rfl,c4,u4,at4⟩;have U4:Hid (aj [] ((((ph,aC pc)::hl)++hx)++h4) w w4):=Lib.hid (by rw[List.append_assoc];exact aj.dP U3.out u4);have C4:=Lib.hid c4;have A4:=Lib.hid (fun W hW=>(at4 W hW).1);obtain⟨VS,cap2,rfl⟩:=(A4.out w4 U4.out.au.left.right).shape;rw[hle]at A4;rw[hle];clear u4 c4 at4))
 obtain⟨n,hnE⟩: ∃n,n=s.IL (g.nodes.length+1):=⟨_,rfl⟩
 obtain⟨LV,Vx⟩: ∃l,l=s.oQ (g.nodes.length+1):=⟨_,rfl⟩
 obtain⟨bf,hNG⟩: ∃l,l=g.qF:=⟨_,rfl⟩
 have hnl:LV.length=n:=by rw[Vx,hnE];rfl
 have hngl:bf.length=n:=by rw[hNG,hnE];exact hle
 have hn2:n<=151:=by rw[hnE];have:=live_bound HR.out;omega
 have HAt:=Lib.hid (fun i (h:i<n)=>live_at HR.out (i:=i) (by rw[<-hnE];exact h))
 have HAp:=Lib.hid (fun i j (h:i<n) (hj:j<i)=>live_apart HR.out (i:=i) (j:=j) (by rw[<-hnE];exact h) hj)
 have HI:=Lib.hid (fun i (h:i<n)=>live_I64 HR.out (i:=i) (by rw[<-hnE];exact h))
 have HY:=Lib.hid (fun k (h:k<n)=>sumI_takeS s.oL LV k (by rw[hnl];exact h))
 have HO:=Lib.hid (fun k (h:k<n)=>sumI_takeS s.zS LV k (by rw[hnl];exact h))
 have HYb:=Lib.hid (fun k=>FU s.oL 66 (fun a=>⟨wYoung_nonneg s a,by have:=aA s.ws a;unfold af.oL;split<;>omega⟩) (LV.take k))
 have HOb:=Lib.hid (fun k=>FU s.zS 1000000 (fun a=>⟨wOld_nonneg (by rw[HR.out.tied.cf];exact HR.out.tied.fits.g1) a,wOld_le HR.out a⟩) (LV.take k))
 have HW0:=Lib.hid (fun a=>wOld_nonneg (s:=s) (by rw[HR.out.tied.cf];exact HR.out.tied.fits.g1) a)
 have HW1:=Lib.hid (fun a=>wOld_le HR.out a)
 have HW2:Hid (∀a,s.oL a<=66):=Lib.hid (fun a=>by have:=aA s.ws a;unfold af.oL;split<;>omega)
 have HtL: ∀k,(LV.take k).length<=151:=fun k=>by have:=List.length_take_le' k LV;omega
 have hfin:lY ((LV.take n).map s.oL)=s.liveY (g.nodes.length+1)/\lY ((LV.take n).map s.zS)=s.liveO (g.nodes.length+1):=by
  rw[<-hnl,List.take_length,Vx]
  exact⟨rfl,rfl⟩
 have HFin:=Lib.hid hfin
 have WS:=live_used HR.out
 have WJ:=Lib.hid WS
 have hok:s.o.Ok:=by
  obtain⟨cur,az,I,_⟩:=HR.out.tied.inv
  exact I.lay.ov.ok
 have HSz:=Lib.hid (fun a (ha:I64 a) W h (hi:In W h) (hc:ah pc L s h)=>D_ pc L s a W h hi hc hok ha)
 have Ru:=Lib.hid (fun a (ha:I64 a) W h (hi:In W h) (hc:ah pc L s h)=>core_isIn pc L s a W h hi hc ha)
 have EY:=Lib.hid (fun a (ha:I64 a) W h (hi:In W h) (hc:ah pc L s h)=>Na pc L s a W h hi hc ha)
 have HTx:=Lib.hid (fun W h (hi:In W h) (hc:ah pc L s h)=>(⟨(hc.Xg hi HR.out.tied.cf).py,(hc.Xg hi HR.out.tied.cf).po⟩:W.cell? ⟨pc,14,none⟩=some (.pointer (some ⟨L.py,0,none⟩))/\W.cell? ⟨pc,15,none⟩=some (.pointer (some ⟨L.po,0,none⟩))))
 have HWd:=Lib.hid (fun W h (hi:In W h) (hc:ah pc L s h)=>nP.out pc L s C g HR.out (by omega) W h hi hc)
 obtain⟨ay,hPX⟩: ∃p,p=((ph,aC pc)::hl)++hx:=⟨_,rfl⟩
 have HP1:Hid (∀W,In W ay->pK W (.slice ao n cap) LV):=Lib.hid (fun W hW=>by
  rw[hPX]at hW
  rw[hnE,Vx]
  exact A3.out W hW.left.tail)
 have HP2:Hid (∀W,In W ay->mV W (.slice VS n cap2) bf):=Lib.hid (fun W hW=>by
  rw[hPX]at hW
  rw[hnE,hNG]
  exact A4.out W hW.right)
 have HPs:Hid ([(ph,aC pc)].Sublist ay):=Lib.hid (by rw[hPX];exact List.singleton_sublist.2 (by simp))
 have HS:Hid (LiveL pc L s ay w w4):=Lib.hid ⟨h4,C4.out,by rw[hPX];exact U4.out⟩
 rw[<-Vx,<-hNG]at HAt
 rw[<-Vx]at HAp HI
 rw[<-hnE]
 have HZ:=Lib.hid HR.out.tied.Vu
 clear hlive hnodes nP A3 A4 U2 U3 U4 C1 C3 C4 hPX Vx hNG hnE hle hn hfin WS hok HR
 generalize s.liveY (g.nodes.length+1)=bg at*
 generalize s.liveO (g.nodes.length+1)=LO at*
 go_loopw [16,17,18] (fun yv ov q wr=> ∃(k:Nat),k<=n/\yv= .int .i64 (lY ((LV.take k).map s.oL))/\ov= .int .i64 (lY ((LV.take k).map s.zS))/\q= .int .i64 k/\Hid (LiveL pc L s ay w wr)) (fun _ _ q _=>n-(intOf q).toNat)
 case atStart=>exact⟨0,by omega,rfl,rfl,rfl,HS⟩
 case round=>
  obtain⟨k,hk,rfl,rfl,rfl,HW⟩:=hrel
  clear HS
  by_cases hlt:k<n
  ·obtain⟨yb0,yb1⟩:=HYb.out k
   obtain⟨ob0,ob1⟩:=HOb.out k
   have hyS:=HY.out k hlt
   have hoS:=HO.out k hlt
   have hat:=HAt.out k hlt
   have hI:=HI.out k hlt
   have hl1:=HtL k
   have hAp:=Lib.hid (fun j hj=>HAp.out k j hlt hj)
   generalize hY:lY ((LV.take k).map s.oL)=Y at*
   generalize hO:lY ((LV.take k).map s.zS)=O at*
   generalize hYn:lY ((LV.take (k+1)).map s.oL)=dn at*
   generalize hOn:lY ((LV.take (k+1)).map s.zS)=On at*
   have HYn:=Lib.hid hYn
   have HOn:=Lib.hid hOn
   have hyB:66*((LV.take k).length:Int)<=66*151:=by omega
   have hoB:1000000*((LV.take k).length:Int)<=1000000*151:=by omega
   generalize (LV.take k).length=tk' at*
   obtain⟨gl,ol,hao,_⟩:=(HP1.out wr (by obtain⟨h,_,u⟩:=HW.out;exact u.au.left)).at (i:=k) (by omega)
   subst hao
   have HP1b:Hid (∀W j,In W ay->j<n->W.cell? ⟨gl,ol+j,none⟩=some (.int .i64 (LV.getD j 0))):=Lib.hid (fun W j hW hj=>by
    obtain⟨g',o',e,q⟩:=(HP1.out W hW).at (i:=j) (by omega)
    cases e
    exact q)
   obtain⟨g2,o2,_,_,_,_,hao2,_⟩:=(HP2.out wr (by obtain⟨h,_,u⟩:=HW.out;exact u.au.left)).at (i:=k) (by omega)
   subst hao2
   generalize hA:LV.getD k 0=A at*
   have HOb9:=Lib.hid (fun a=>(⟨HW0.out a,HW1.out a⟩:0<=s.zS a/\s.zS a<=1000000))
   clear hY hO hYn hOn HYb HOb HY HO HAt HAp HI HP1
   obtain⟨hW0,cW0,uW0⟩:=HW.out
   have HS2:Hid (LiveL pc L s ay w wr):=HW
   clear HW hW0 cW0 uW0
   go_wp2
   go_loopw [19] (fun q wr=> ∃(j:Nat),j<=k/\q= .int .i64 j/\Hid (LiveL pc L s ay w wr)) (fun q _=>k-(intOf q).toNat)
   case atStart=>exact⟨0,by omega,rfl,HS2⟩
   case round=>
    obtain⟨j,hj,rfl,HW⟩:=hrel
    obtain⟨h,cW,uW⟩:=HW.out
    clear HS2
    by_cases hjk:j<k
    ·have x1:=HP1b.out wr k uW.au.left hlt
     have x2:=HP1b.out wr j uW.au.left (by omega)
     have hne:=hAp.out j hjk
     rw[hA]at x1
     have eu:=Lib.hid cW
     have eU:=Lib.hid uW
     clear cW uW HW hat
     generalize LV.getD j 0=B at*
     go_wp2
     go_quiet (fail)
     go_wp2
     go_roundw
     case rel=>exact⟨j+1,by omega,by go_num,Lib.hid ⟨h,eu.out,eU.out.drewN' nq⟩⟩
     case measure=>simp[intOf];omega
    ·have hT:=HTx.out wr h uW.au.right cW
     have x1:=HP1b.out wr k uW.au.left hlt
     rw[hA]at x1
     have eu:=Lib.hid cW
     have eU:=Lib.hid uW
     clear cW uW HW
     generalize hP:(bf.getD k nd0).ptrs.length=P at*
     generalize hQ:(bf.getD k nd0).iD.length=Q at*
     have HPQ:=Lib.hid (And.intro hP hQ)
     clear hP hQ
     have UD:=Lib.hid eU.out.drew'
     have hS0:=And.intro (HTx.out _ _ UD.out.au.right eu.out).2 (HP1b.out _ k UD.out.au.left hlt)
     rw[hA]at hS0
     have HA:=Lib.hid hA
     clear hA hT x1
     have HyS:=Lib.hid hyS
     have HoS:=Lib.hid hoS
     have HI1:=Lib.hid hI
     have HLn:=Lib.hid (And.intro hnl hngl)
     clear hyS hoS hI hnl hngl
     rcases hat with⟨z,hz,hw1,hw2⟩|⟨hz,hio,hw1,hw2⟩
     ·have hsz:=Lib.hid (HSz.out A HI1.out)
      rw[hz]at hsz
      have HW9:=Lib.hid (And.intro hw1 hw2)
      clear hz hw1 hw2
      simp only[UB,Option.isSome_some]at hsz
      go_wp2
      refine wp_region_held_drew (S:=fun w'=>w'.cell? ⟨pc,15,none⟩=some (.pointer (some ⟨L.po,0,none⟩))/\w'.cell? ⟨gl,ol+k,none⟩=some (.int .i64 A)) (by kernel_rfl) (hS0) (fun hHeld=> ?_)
      refine tk 0 ?_
      refine tk 1 ?_
      refine tk 2 ?_
      refine tk 3 ?_
      refine tk 4 ?_
      refine tk 5 ?_
      refine tk 6 ?_
      refine tk 7 ?_
      try simp only[Act.put,List.setIfInBounds_toArray,List.set_cons_zero,List.set_cons_succ]
      refine wpAnyH_ready (rs:=[8]) (by kernel_rfl) (by simp) ?_
      refine AllReadyH.cons (o:=_) rfl (fun K hK=> ?_) AllReadyH.nil
      go_simp
      go_wp2_with(go_at_call 42;refine Calls.mono (hsz.out _ _ UD.out.au.right eu.out) ?_;rintro e w5 ⟨rfl,u5⟩;have U5:=Lib.hid (aj.fM UD.out u5);have hS5:=And.intro (HTx.out _ _ U5.out.au.right eu.out).2 (HP1b.out _ k U5.out.au.left hlt);rw[HA.out]at hS5;clear u5)
      try go_wp2_with fail
      refine hK.out _ _ (hS5) (fun hHeld=> ?_)
      clear hK K
      try simp only[Act.put,List.setIfInBounds_toArray,List.set_cons_zero,List.set_cons_succ]
      refine tk 9 ?_
      refine tk 10 ?_
      refine tk 11 ?_
      refine tk 12 ?_
      refine tk 13 ?_
      try simp only[Act.put,List.setIfInBounds_toArray,List.set_cons_zero,List.set_cons_succ]
      refine wpAnyH_done (by kernel_rfl) ?_ _
      go_simp
      clear hS0 hS5
      have gp:=Lib.hid U5.out.drew'
      have hS6:=And.intro (HTx.out _ _ gp.out.au.right eu.out).1 (HP1b.out _ k gp.out.au.left hlt)
      rw[HA.out]at hS6
      go_wp2
      refine wp_region_held_drew (S:=fun _=>True) (by kernel_rfl) (trivial) (fun hHeld=> ?_)
      refine tk 0 ?_
      refine tk 1 ?_
      refine tk 2 ?_
      try simp only[Act.put,List.setIfInBounds_toArray,List.set_cons_zero,List.set_cons_succ]
      refine wpAnyH_take (i:=3) (v:=undef) rfl (by kernel_rfl) (by kernel_rfl) (by kernel_rfl) (fun _ _ _ h=>h) (Or.inr ⟨by kernel_rfl,rfl⟩) (by assumption) ?_
      try simp only[Act.put,List.setIfInBounds_toArray,List.set_cons_zero,List.set_cons_succ]
      refine wpAnyH_take (i:=4) (v:=undef) rfl (by kernel_rfl) (by kernel_rfl) (by kernel_rfl) (fun _ _ _ h=>h) (Or.inr ⟨by kernel_rfl,rfl⟩) (by assumption) ?_
      try simp only[Act.put,List.setIfInBounds_toArray,List.set_cons_zero,List.set_cons_succ]
      refine wpAnyH_take (i:=5) (v:=undef) rfl (by kernel_rfl) (by kernel_rfl) (by kernel_rfl) (fun _ _ _ h=>h) (Or.inr ⟨by kernel_rfl,rfl⟩) (by assumption) ?_
      try simp only[Act.put,List.setIfInBounds_toArray,List.set_cons_zero,List.set_cons_succ]
      refine wpAnyH_take (i:=6) (v:=undef) rfl (by kernel_rfl) (by kernel_rfl) (by kernel_rfl) (fun _ _ _ h=>h) (Or.inr ⟨by kernel_rfl,rfl⟩) (by assumption) ?_
      try simp only[Act.put,List.setIfInBounds_toArray,List.set_cons_zero,List.set_cons_succ]
      refine wpAnyH_take (i:=7) (v:=undef) rfl (by kernel_rfl) (by kernel_rfl) (by kernel_rfl) (fun _ _ _ h=>h) (Or.inr ⟨by kernel_rfl,rfl⟩) (by assumption) ?_
      try simp only[Act.put,List.setIfInBounds_toArray,List.set_cons_zero,List.set_cons_succ]
      refine wpAnyH_take (i:=8) (v:=undef) rfl (by kernel_rfl) (by kernel_rfl) (by kernel_rfl) (fun _ _ _ h=>h) (Or.inr ⟨by kernel_rfl,rfl⟩) (by assumption) ?_
      try simp only[Act.put,List.setIfInBounds_toArray,List.set_cons_zero,List.set_cons_succ]
      refine wpAnyH_take (i:=9) (v:=undef) rfl (by kernel_rfl) (by kernel_rfl) (by kernel_rfl) (fun _ _ _ h=>h) (Or.inr ⟨by kernel_rfl,rfl⟩) (by assumption) ?_
      try simp only[Act.put,List.setIfInBounds_toArray,List.set_cons_zero,List.set_cons_succ]
      refine wpAnyH_take (i:=10) (v:=undef) rfl (by kernel_rfl) (by kernel_rfl) (by kernel_rfl) (fun _ _ _ h=>h) (Or.inr ⟨by kernel_rfl,rfl⟩) (by assumption) ?_
      try simp only[Act.put,List.setIfInBounds_toArray,List.set_cons_zero,List.set_cons_succ]
      refine wpAnyH_take (i:=11) (v:=undef) rfl (by kernel_rfl) (by kernel_rfl) (by kernel_rfl) (fun _ _ _ h=>h) (Or.inr ⟨by kernel_rfl,rfl⟩) (by assumption) ?_
      try simp only[Act.put,List.setIfInBounds_toArray,List.set_cons_zero,List.set_cons_succ]
      refine wpAnyH_take (i:=12) (v:=undef) rfl (by kernel_rfl) (by kernel_rfl) (by kernel_rfl) (fun _ _ _ h=>h) (Or.inr ⟨by kernel_rfl,rfl⟩) (by assumption) ?_
      try simp only[Act.put,List.setIfInBounds_toArray,List.set_cons_zero,List.set_cons_succ]
      refine tk 13 ?_
      refine tk 14 ?_
      try simp only[Act.put,List.setIfInBounds_toArray,List.set_cons_zero,List.set_cons_succ]
      refine wpAnyH_take (i:=15) (v:=undef) rfl (by kernel_rfl) (by kernel_rfl) (by kernel_rfl) (fun _ _ _ h=>h) (Or.inr ⟨by kernel_rfl,rfl⟩) (by assumption) ?_
      try simp only[Act.put,List.setIfInBounds_toArray,List.set_cons_zero,List.set_cons_succ]
      refine wpAnyH_take (i:=16) (v:=undef) rfl (by kernel_rfl) (by kernel_rfl) (by kernel_rfl) (fun _ _ _ h=>h) (Or.inr ⟨by kernel_rfl,rfl⟩) (by assumption) ?_
      try simp only[Act.put,List.setIfInBounds_toArray,List.set_cons_zero,List.set_cons_succ]
      refine wpAnyH_take (i:=17) (v:=undef) rfl (by kernel_rfl) (by kernel_rfl) (by kernel_rfl) (fun _ _ _ h=>h) (Or.inr ⟨by kernel_rfl,rfl⟩) (by assumption) ?_
      try simp only[Act.put,List.setIfInBounds_toArray,List.set_cons_zero,List.set_cons_succ]
      refine wpAnyH_take (i:=18) (v:=undef) rfl (by kernel_rfl) (by kernel_rfl) (by kernel_rfl) (fun _ _ _ h=>h) (Or.inr ⟨by kernel_rfl,rfl⟩) (by assumption) ?_
      try simp only[Act.put,List.setIfInBounds_toArray,List.set_cons_zero,List.set_cons_succ]
      refine wpAnyH_take (i:=19) (v:=undef) rfl (by kernel_rfl) (by kernel_rfl) (by kernel_rfl) (fun _ _ _ h=>h) (Or.inr ⟨by kernel_rfl,rfl⟩) (by assumption) ?_
      try simp only[Act.put,List.setIfInBounds_toArray,List.set_cons_zero,List.set_cons_succ]
      refine wpAnyH_take (i:=20) (v:=undef) rfl (by kernel_rfl) (by kernel_rfl) (by kernel_rfl) (fun _ _ _ h=>h) (Or.inr ⟨by kernel_rfl,rfl⟩) (by assumption) ?_
      try simp only[Act.put,List.setIfInBounds_toArray,List.set_cons_zero,List.set_cons_succ]
      refine wpAnyH_take (i:=21) (v:=undef) rfl (by kernel_rfl) (by kernel_rfl) (by kernel_rfl) (fun _ _ _ h=>h) (Or.inr ⟨by kernel_rfl,rfl⟩) (by assumption) ?_
      try simp only[Act.put,List.setIfInBounds_toArray,List.set_cons_zero,List.set_cons_succ]
      refine wpAnyH_take (i:=22) (v:=undef) rfl (by kernel_rfl) (by kernel_rfl) (by kernel_rfl) (fun _ _ _ h=>h) (Or.inr ⟨by kernel_rfl,rfl⟩) (by assumption) ?_
      try simp only[Act.put,List.setIfInBounds_toArray,List.set_cons_zero,List.set_cons_succ]
      refine wpAnyH_take (i:=23) (v:=undef) rfl (by kernel_rfl) (by kernel_rfl) (by kernel_rfl) (fun _ _ _ h=>h) (Or.inr ⟨by kernel_rfl,rfl⟩) (by assumption) ?_
      try simp only[Act.put,List.setIfInBounds_toArray,List.set_cons_zero,List.set_cons_succ]
      refine wpAnyH_take (i:=24) (v:=undef) rfl (by kernel_rfl) (by kernel_rfl) (by kernel_rfl) (fun _ _ _ h=>h) (Or.inr ⟨by kernel_rfl,rfl⟩) (by assumption) ?_
      try simp only[Act.put,List.setIfInBounds_toArray,List.set_cons_zero,List.set_cons_succ]
      refine tk 25 ?_
      try simp only[Act.put,List.setIfInBounds_toArray,List.set_cons_zero,List.set_cons_succ]
      refine wpAnyH_done (by kernel_rfl) ?_ _
      go_simp
      have hwz:wrap64 (O+z)=O+z:=by have:=HOb9.out A;rw[HW9.out.1]at this;exact pq ⟨by omega,by omega⟩
      go_wp2
      go_roundw
      case rel=>exact⟨k+1,by omega,by rw[HYn.out,HyS.out,HW9.out.2,Int.add_zero],by rw[HOn.out,HoS.out,HW9.out.1,hwz],by go_num,Lib.hid ⟨_,eu.out,gp.out⟩⟩
      case measure=>simp[intOf];omega
     ·cases hb:s.y.isIn A
      ·have hfb:s.y.dI A=true:=hio.resolve_left (by rw[hb];decide)
       have hsz:=Lib.hid (HSz.out A HI1.out)
       rw[hz]at hsz
       have HW9:=Lib.hid (And.intro hw1 hw2)
       clear hz hw1 hw2
       simp only[UB,Option.isSome_none]at hsz
       go_wp2
       refine wp_region_held_drew (S:=fun w'=>w'.cell? ⟨pc,15,none⟩=some (.pointer (some ⟨L.po,0,none⟩))/\w'.cell? ⟨gl,ol+k,none⟩=some (.int .i64 A)) (by kernel_rfl) (hS0) (fun hHeld=> ?_)
       refine tk 0 ?_
       refine tk 1 ?_
       refine tk 2 ?_
       refine tk 3 ?_
       refine tk 4 ?_
       refine tk 5 ?_
       refine tk 6 ?_
       refine tk 7 ?_
       try simp only[Act.put,List.setIfInBounds_toArray,List.set_cons_zero,List.set_cons_succ]
       refine wpAnyH_ready (rs:=[8]) (by kernel_rfl) (by simp) ?_
       refine AllReadyH.cons (o:=_) rfl (fun K hK=> ?_) AllReadyH.nil
       go_simp
       go_wp2_with(go_at_call 42;refine Calls.mono (hsz.out _ _ UD.out.au.right eu.out) ?_;rintro e w5 ⟨rfl,u5⟩;have U5:=Lib.hid (aj.fM UD.out u5);have hS5:=And.intro (HTx.out _ _ U5.out.au.right eu.out).2 (HP1b.out _ k U5.out.au.left hlt);rw[HA.out]at hS5;clear u5)
       try go_wp2_with fail
       refine hK.out _ _ (hS5) (fun hHeld=> ?_)
       clear hK K
       try simp only[Act.put,List.setIfInBounds_toArray,List.set_cons_zero,List.set_cons_succ]
       refine tk 9 ?_
       refine tk 10 ?_
       refine tk 11 ?_
       refine tk 12 ?_
       refine tk 13 ?_
       try simp only[Act.put,List.setIfInBounds_toArray,List.set_cons_zero,List.set_cons_succ]
       refine wpAnyH_done (by kernel_rfl) ?_ _
       go_simp
       clear hS0 hS5
       have gp:=Lib.hid U5.out.drew'
       have hS6:=And.intro (HTx.out _ _ gp.out.au.right eu.out).1 (HP1b.out _ k gp.out.au.left hlt)
       rw[HA.out]at hS6
       go_wp2
       have hin:=Lib.hid (Ru.out A HI1.out)
       rw[hb]at hin
       have hfr:=Lib.hid (EY.out A HI1.out)
       rw[hfb]at hfr
       refine wp_region_held_drew (S:=fun w'=>w'.cell? ⟨pc,14,none⟩=some (.pointer (some ⟨L.py,0,none⟩))/\w'.cell? ⟨gl,ol+k,none⟩=some (.int .i64 A)) (by kernel_rfl) (hS6) (fun hHeld=> ?_)
       refine tk 0 ?_
       refine tk 1 ?_
       refine tk 2 ?_
       refine tk 3 ?_
       refine tk 4 ?_
       refine tk 5 ?_
       refine tk 6 ?_
       refine tk 7 ?_
       refine tk 8 ?_
       refine tk 9 ?_
       refine tk 10 ?_
       try simp only[Act.put,List.setIfInBounds_toArray,List.set_cons_zero,List.set_cons_succ]
       refine wpAnyH_ready (rs:=[11]) (by kernel_rfl) (by simp) ?_
       refine AllReadyH.cons (o:=_) rfl (fun K hK=> ?_) AllReadyH.nil
       go_simp
       go_wp2_with(go_at_call 43;refine Calls.mono (hin.out _ _ gp.out.au.right eu.out) ?_;rintro e w6 ⟨rfl,u6⟩;have U6:=Lib.hid (aj.fM gp.out u6);have hS7:=And.intro (HTx.out _ _ U6.out.au.right eu.out).1 (HP1b.out _ k U6.out.au.left hlt);rw[HA.out]at hS7;clear u6)
       try go_wp2_with fail
       refine hK.out _ _ (hS7) (fun hHeld=> ?_)
       clear hK K
       try simp only[Act.put,List.setIfInBounds_toArray,List.set_cons_zero,List.set_cons_succ]
       refine tk 12 ?_
       refine tk 13 ?_
       refine tk 14 ?_
       refine tk 15 ?_
       refine tk 16 ?_
       refine tk 17 ?_
       refine tk 18 ?_
       refine tk 19 ?_
       refine tk 20 ?_
       refine tk 21 ?_
       refine tk 22 ?_
       try simp only[Act.put,List.setIfInBounds_toArray,List.set_cons_zero,List.set_cons_succ]
       refine wpAnyH_ready (rs:=[23]) (by kernel_rfl) (by simp) ?_
       refine AllReadyH.cons (o:=_) rfl (fun K hK=> ?_) AllReadyH.nil
       go_simp
       go_wp2_with(go_at_call 44;refine Calls.mono (hfr.out _ _ U6.out.au.right eu.out) ?_;rintro e w7 ⟨rfl,u7⟩;have U7:=Lib.hid (aj.fM U6.out u7);have RF:=And.intro (HTx.out _ _ U7.out.au.right eu.out).1 (HP1b.out _ k U7.out.au.left hlt);rw[HA.out]at RF;clear u7)
       try go_wp2_with fail
       refine hK.out _ _ (RF) (fun hHeld=> ?_)
       clear hK K
       try simp only[Act.put,List.setIfInBounds_toArray,List.set_cons_zero,List.set_cons_succ]
       refine tk 24 ?_
       refine tk 25 ?_
       try simp only[Act.put,List.setIfInBounds_toArray,List.set_cons_zero,List.set_cons_succ]
       refine wpAnyH_done (by kernel_rfl) ?_ _
       go_simp
       have UX:=U7
       go_wp2
       have UY:=Lib.hid UX.out.drew'
       obtain⟨_,_,ap,cp,ac,cs,e2,d1,d2,_,_⟩:=(HP2.out _ UY.out.au.left).at (i:=k) (by rw[HLn.out.2];exact hlt)
       cases e2
       rw[HPQ.out.1]at d1
       rw[HPQ.out.2]at d2
       have hpq:(P:Int)+Q+2<=66:=by have:=HW2.out A;rw[HW9.out.2]at this;exact this
       have hq1:IntKind.i64.wrap ((P:Int)+Q)=P+Q:=IntWalk.i64_in _ (by omega)
       have hq2:IntKind.i64.wrap ((P:Int)+Q+2)=P+Q+2:=IntWalk.i64_in _ (by omega)
       have hq3:IntKind.i64.wrap (Y+((P:Int)+Q+2))=Y+(P+Q+2):=IntWalk.i64_in _ (by omega)
       have wO:=And.intro d1 d2
       clear d1 d2
       refine wp_region_held_drew (S:=fun w'=>w'.cell? ⟨g2,o2+k*2,none⟩=some (.slice ap P cp)/\w'.cell? ⟨g2,o2+k*2+1,none⟩=some (.slice ac Q cs)) (by kernel_rfl) (wO) (fun hHeld=> ?_)
       refine tk 0 ?_
       refine tk 1 ?_
       refine tk 2 ?_
       refine tk 3 ?_
       refine tk 4 ?_
       refine tk 5 ?_
       refine tk 6 ?_
       refine tk 7 ?_
       refine tk 8 ?_
       refine tk 9 ?_
       refine tk 10 ?_
       refine tk 11 ?_
       refine tk 12 ?_
       refine tk 13 ?_
       refine tk 14 ?_
       refine tk 15 ?_
       refine tk 16 ?_
       try simp only[Act.put,List.setIfInBounds_toArray,List.set_cons_zero,List.set_cons_succ]
       refine wpAnyH_done (by kernel_rfl) ?_ _
       go_simp
       go_wp2
       go_roundw
       case rel=>exact⟨k+1,by omega,by rw[HYn.out,HyS.out,HW9.out.2],by rw[HOn.out,HoS.out,HW9.out.1,Int.add_zero],by go_num,Lib.hid ⟨_,eu.out,UY.out⟩⟩
       case measure=>simp[intOf];omega
      ·have hsz:=Lib.hid (HSz.out A HI1.out)
       rw[hz]at hsz
       have HW9:=Lib.hid (And.intro hw1 hw2)
       clear hz hw1 hw2
       simp only[UB,Option.isSome_none]at hsz
       go_wp2
       refine wp_region_held_drew (S:=fun w'=>w'.cell? ⟨pc,15,none⟩=some (.pointer (some ⟨L.po,0,none⟩))/\w'.cell? ⟨gl,ol+k,none⟩=some (.int .i64 A)) (by kernel_rfl) (hS0) (fun hHeld=> ?_)
       refine tk 0 ?_
       refine tk 1 ?_
       refine tk 2 ?_
       refine tk 3 ?_
       refine tk 4 ?_
       refine tk 5 ?_
       refine tk 6 ?_
       refine tk 7 ?_
       try simp only[Act.put,List.setIfInBounds_toArray,List.set_cons_zero,List.set_cons_succ]
       refine wpAnyH_ready (rs:=[8]) (by kernel_rfl) (by simp) ?_
       refine AllReadyH.cons (o:=_) rfl (fun K hK=> ?_) AllReadyH.nil
       go_simp
       go_wp2_with(go_at_call 42;refine Calls.mono (hsz.out _ _ UD.out.au.right eu.out) ?_;rintro e w5 ⟨rfl,u5⟩;have U5:=Lib.hid (aj.fM UD.out u5);have hS5:=And.intro (HTx.out _ _ U5.out.au.right eu.out).2 (HP1b.out _ k U5.out.au.left hlt);rw[HA.out]at hS5;clear u5)
       try go_wp2_with fail
       refine hK.out _ _ (hS5) (fun hHeld=> ?_)
       clear hK K
       try simp only[Act.put,List.setIfInBounds_toArray,List.set_cons_zero,List.set_cons_succ]
       refine tk 9 ?_
       refine tk 10 ?_
       refine tk 11 ?_
       refine tk 12 ?_
       refine tk 13 ?_
       try simp only[Act.put,List.setIfInBounds_toArray,List.set_cons_zero,List.set_cons_succ]
       refine wpAnyH_done (by kernel_rfl) ?_ _
       go_simp
       clear hS0 hS5
       have gp:=Lib.hid U5.out.drew'
       have hS6:=And.intro (HTx.out _ _ gp.out.au.right eu.out).1 (HP1b.out _ k gp.out.au.left hlt)
       rw[HA.out]at hS6
       go_wp2
       have hin:=Lib.hid (Ru.out A HI1.out)
       rw[hb]at hin
       refine wp_region_held_drew (S:=fun w'=>w'.cell? ⟨pc,14,none⟩=some (.pointer (some ⟨L.py,0,none⟩))/\w'.cell? ⟨gl,ol+k,none⟩=some (.int .i64 A)) (by kernel_rfl) (hS6) (fun hHeld=> ?_)
       refine tk 0 ?_
       refine tk 1 ?_
       refine tk 2 ?_
       refine tk 3 ?_
       refine tk 4 ?_
       refine tk 5 ?_
       refine tk 6 ?_
       refine tk 7 ?_
       refine tk 8 ?_
       refine tk 9 ?_
       refine tk 10 ?_
       try simp only[Act.put,List.setIfInBounds_toArray,List.set_cons_zero,List.set_cons_succ]
       refine wpAnyH_ready (rs:=[11]) (by kernel_rfl) (by simp) ?_
       refine AllReadyH.cons (o:=_) rfl (fun K hK=> ?_) AllReadyH.nil
       go_simp
       go_wp2_with(go_at_call 43;refine Calls.mono (hin.out _ _ gp.out.au.right eu.out) ?_;rintro e w6 ⟨rfl,u6⟩;have U6:=Lib.hid (aj.fM gp.out u6);have hS7:=And.intro (HTx.out _ _ U6.out.au.right eu.out).1 (HP1b.out _ k U6.out.au.left hlt);rw[HA.out]at hS7;clear u6)
       try go_wp2_with fail
       refine hK.out _ _ (hS7) (fun hHeld=> ?_)
       clear hK K
       try simp only[Act.put,List.setIfInBounds_toArray,List.set_cons_zero,List.set_cons_succ]
       refine tk 12 ?_
       refine tk 13 ?_
       refine tk 14 ?_
       try simp only[Act.put,List.setIfInBounds_toArray,List.set_cons_zero,List.set_cons_succ]
       refine wpAnyH_take (i:=15) (v:=undef) rfl (by kernel_rfl) (by kernel_rfl) (by kernel_rfl) (fun _ _ _ h=>h) (Or.inr ⟨by kernel_rfl,rfl⟩) (by assumption) ?_
       try simp only[Act.put,List.setIfInBounds_toArray,List.set_cons_zero,List.set_cons_succ]
       refine wpAnyH_take (i:=16) (v:=undef) rfl (by kernel_rfl) (by kernel_rfl) (by kernel_rfl) (fun _ _ _ h=>h) (Or.inr ⟨by kernel_rfl,rfl⟩) (by assumption) ?_
       try simp only[Act.put,List.setIfInBounds_toArray,List.set_cons_zero,List.set_cons_succ]
       refine wpAnyH_take (i:=17) (v:=undef) rfl (by kernel_rfl) (by kernel_rfl) (by kernel_rfl) (fun _ _ _ h=>h) (Or.inr ⟨by kernel_rfl,rfl⟩) (by assumption) ?_
       try simp only[Act.put,List.setIfInBounds_toArray,List.set_cons_zero,List.set_cons_succ]
       refine wpAnyH_take (i:=18) (v:=undef) rfl (by kernel_rfl) (by kernel_rfl) (by kernel_rfl) (fun _ _ _ h=>h) (Or.inr ⟨by kernel_rfl,rfl⟩) (by assumption) ?_
       try simp only[Act.put,List.setIfInBounds_toArray,List.set_cons_zero,List.set_cons_succ]
       refine wpAnyH_take (i:=19) (v:=undef) rfl (by kernel_rfl) (by kernel_rfl) (by kernel_rfl) (fun _ _ _ h=>h) (Or.inr ⟨by kernel_rfl,rfl⟩) (by assumption) ?_
       try simp only[Act.put,List.setIfInBounds_toArray,List.set_cons_zero,List.set_cons_succ]
       refine wpAnyH_take (i:=20) (v:=undef) rfl (by kernel_rfl) (by kernel_rfl) (by kernel_rfl) (fun _ _ _ h=>h) (Or.inr ⟨by kernel_rfl,rfl⟩) (by assumption) ?_
       try simp only[Act.put,List.setIfInBounds_toArray,List.set_cons_zero,List.set_cons_succ]
       refine wpAnyH_take (i:=21) (v:=undef) rfl (by kernel_rfl) (by kernel_rfl) (by kernel_rfl) (fun _ _ _ h=>h) (Or.inr ⟨by kernel_rfl,rfl⟩) (by assumption) ?_
       try simp only[Act.put,List.setIfInBounds_toArray,List.set_cons_zero,List.set_cons_succ]
       refine wpAnyH_take (i:=22) (v:=undef) rfl (by kernel_rfl) (by kernel_rfl) (by kernel_rfl) (fun _ _ _ h=>h) (Or.inr ⟨by kernel_rfl,rfl⟩) (by assumption) ?_
       try simp only[Act.put,List.setIfInBounds_toArray,List.set_cons_zero,List.set_cons_succ]
       refine wpAnyH_take (i:=23) (v:=undef) rfl (by kernel_rfl) (by kernel_rfl) (by kernel_rfl) (fun _ _ _ h=>h) (Or.inr ⟨by kernel_rfl,rfl⟩) (by assumption) ?_
       try simp only[Act.put,List.setIfInBounds_toArray,List.set_cons_zero,List.set_cons_succ]
       refine wpAnyH_take (i:=24) (v:=undef) rfl (by kernel_rfl) (by kernel_rfl) (by kernel_rfl) (fun _ _ _ h=>h) (Or.inr ⟨by kernel_rfl,rfl⟩) (by assumption) ?_
       try simp only[Act.put,List.setIfInBounds_toArray,List.set_cons_zero,List.set_cons_succ]
       refine tk 25 ?_
       try simp only[Act.put,List.setIfInBounds_toArray,List.set_cons_zero,List.set_cons_succ]
       refine wpAnyH_done (by kernel_rfl) ?_ _
       go_simp
       have UX:=U6
       go_wp2
       have UY:=Lib.hid UX.out.drew'
       obtain⟨_,_,ap,cp,ac,cs,e2,d1,d2,_,_⟩:=(HP2.out _ UY.out.au.left).at (i:=k) (by rw[HLn.out.2];exact hlt)
       cases e2
       rw[HPQ.out.1]at d1
       rw[HPQ.out.2]at d2
       have hpq:(P:Int)+Q+2<=66:=by have:=HW2.out A;rw[HW9.out.2]at this;exact this
       have hq1:IntKind.i64.wrap ((P:Int)+Q)=P+Q:=IntWalk.i64_in _ (by omega)
       have hq2:IntKind.i64.wrap ((P:Int)+Q+2)=P+Q+2:=IntWalk.i64_in _ (by omega)
       have hq3:IntKind.i64.wrap (Y+((P:Int)+Q+2))=Y+(P+Q+2):=IntWalk.i64_in _ (by omega)
       have wO:=And.intro d1 d2
       clear d1 d2
       refine wp_region_held_drew (S:=fun w'=>w'.cell? ⟨g2,o2+k*2,none⟩=some (.slice ap P cp)/\w'.cell? ⟨g2,o2+k*2+1,none⟩=some (.slice ac Q cs)) (by kernel_rfl) (wO) (fun hHeld=> ?_)
       refine tk 0 ?_
       refine tk 1 ?_
       refine tk 2 ?_
       refine tk 3 ?_
       refine tk 4 ?_
       refine tk 5 ?_
       refine tk 6 ?_
       refine tk 7 ?_
       refine tk 8 ?_
       refine tk 9 ?_
       refine tk 10 ?_
       refine tk 11 ?_
       refine tk 12 ?_
       refine tk 13 ?_
       refine tk 14 ?_
       refine tk 15 ?_
       refine tk 16 ?_
       try simp only[Act.put,List.setIfInBounds_toArray,List.set_cons_zero,List.set_cons_succ]
       refine wpAnyH_done (by kernel_rfl) ?_ _
       go_simp
       go_wp2
       go_roundw
       case rel=>exact⟨k+1,by omega,by rw[HYn.out,HyS.out,HW9.out.2],by rw[HOn.out,HoS.out,HW9.out.1,Int.add_zero],by go_num,Lib.hid ⟨_,eu.out,UY.out⟩⟩
       case measure=>simp[intOf];omega
  ·have HU:=HW
   clear HW
   have hkn:k=n:=by omega
   subst hkn
   obtain⟨f1,f2⟩:=HFin.out
   rw[f1,f2]
   obtain⟨h,cW,uW⟩:=HU.out
   have eu:=Lib.hid cW
   have UF:Hid (aj [] ((ph,aC pc)::h) w wr):=Lib.hid (uW.forget (HPs.out.append (List.Sublist.refl h)))
   clear cW uW HU f1 f2
   go_wp2_with(first
    | (go_at_call 37;refine Calls.mono (HWd.out _ _ UF.out.au.tail eu.out) ?_;rintro e w5 ⟨rfl,h5,c5,u5⟩;have U5:=Lib.hid (aj.iL UF.out u5);have C5:=Lib.hid c5;clear u5 c5)
    | (go_at_call 32;refine Calls.mono (hst.out _ _ _ _ HZ.out _ _ U5.out.au C5.out) ?_;rintro e w6 ⟨rfl,h6,c6,u6⟩;have U6:=U5.out.trans u6;clear u6 c6;obtain⟨hu1,hu2⟩:=WJ.out;clear WJ;generalize s.Zr=T1 at*;have U7:=Lib.hid (U6.alloc' (.cells (statCells T1) 61 (0,0)));obtain⟨_,_,_,_,_,y5,y6,_⟩:=Zq (d:=T1) U7.out.au.head;simp only[statCells]at y5 y6 U7;simp only[statCells];clear U6))
   go_ret
   exact⟨by first|rfl|trivial,U7.out.forget (List.nil_sublist _)⟩
end Go.Proofs.YtibemcgdmembeaaGreat
namespace Go.Proofs.YtibemcgdmembeaaGreat
open Go.ChangeShapes Go.WideShapes Go.ChangeAt Go.RowKit
theorem walkLive_lifted(os:Os)(started:os.Started)(H:Type)(enc:TypeId×Value->H):
  ReturnsInHanded {} Tryz.checked os 14 .any (Rows.walkLiveSpec.pre6 enc Tryz.prog Tryz.f14 Rows.walkLiveRow.domain false) (Rows.walkLiveSpec.post enc Tryz.prog Tryz.f14 false true false false):=by
 refine returnsInHanded_of_change (C:=Tryz.checked) Tryz.own started (by kernel_rfl) Tryz.func14
  (ChangeSpec.witness6 (enc:=enc) (C:=Tryz.checked) false ⟨#[],#[.int .u8 0, .int .u8 0, .int .u8 0, .int .u8 0, .slice none 0 0],[]⟩ 8 (by kernel_rfl) (by kernel_rfl) (by kernel_rfl) (by kernel_rfl)) ?_
 intro W base args ds gs before hval0 hW hcnd _
 have hval: ∀(j:Nat) t v,Tryz.f14.params[j]? =some t->args[j]? =some v->Value.okWide Tryz.prog W .any base t v:=hval0
 have hW':=hW
 obtain⟨p,q,hA0,hV,rfl,hfz,hnd⟩:=hW
 have hA:DataW.TrodAll enc Tryz.prog W 0 (fun _=>true) true Tryz.f14.params.toList args.toList ds p:=hA0
 rw[Tryz.params14]at hA hval
 obtain⟨v0,vs0,d0,ds0,p0,q0,hargs,rfl,rfl,h0,r0⟩:=trodAll_cons hA
 obtain⟨v1,vs1,d1,ds1,p1,q1,rfl,rfl,rfl,h1,r1⟩:=trodAll_cons r0
 obtain⟨v2,vs2,d2,ds2,p2,q2,rfl,rfl,rfl,h2,r2⟩:=trodAll_cons r1
 obtain⟨v3,vs3,d3,ds3,p3,q3,rfl,rfl,rfl,h3,r3⟩:=trodAll_cons r2
 obtain⟨v4,vs4,d4,ds4,p4,q4,rfl,rfl,rfl,h4,r4⟩:=trodAll_cons r3
 obtain⟨rfl,rfl,rfl⟩:=trodAll_nil r4
 obtain rfl:args=#[v0,v1,v2,v3,v4]:=by cases args;simp_all
 obtain⟨rfl,rfl⟩:=trodVars_none hV
 obtain⟨a0,rfl,rfl,rfl,w0⟩:=open_int Tryz.underlying5 (hval 0 5 v0 rfl rfl) h0
 obtain⟨a1,rfl,rfl,rfl,w1⟩:=open_int Tryz.underlying5 (hval 1 5 v1 rfl rfl) h1
 obtain⟨a2,rfl,rfl,rfl,w2⟩:=open_int Tryz.underlying5 (hval 2 5 v2 rfl rfl) h2
 obtain⟨a3,rfl,rfl,rfl,w3⟩:=open_int Tryz.underlying5 (hval 3 5 v3 rfl rfl) h3
 have k4:=h4
 have lt4: ∀x∈p4,x.block<W.heap.size:=by obtain⟨m,hm⟩:=k4;exact DataW.trod_lt m _ _ _ hm
 obtain⟨a4,w4⟩:=Ky (hval 4 24 v4 rfl rfl) h4
 clear hA0 hval0
 refine(walkLive_any a0 a1 a2 a3 v4 a4 (LJ w0) (LJ w1) (LJ w2) (LJ w3) w4).mono fun e W' ⟨he,hu⟩=> ?_
 subst he
 exact⟨_,rfl,zQ (pv:=[]) hW' (fun _ _ _=>trodAll_cons_mk (shut_bool Tryz.underlying4 _) trodAll_mk0) (trodAll_cons_mk (shut_int Tryz.underlying5 w0) (trodAll_cons_mk (shut_int Tryz.underlying5 w1) (trodAll_cons_mk (shut_int Tryz.underlying5 w2) (trodAll_cons_mk (shut_int Tryz.underlying5 w3) (trodAll_cons_mk (Below.trod Tryz.laidOut (by kernel_rfl) (of_decide_eq_true (by kernel_rfl)) k4 hu.below lt4) trodAll_mk0))))) (fun _ _=>rfl) rfl
  (hu.below.frame _)⟩
theorem walkLive_holds:Rows.WalkLiveSaid:=
 OpenClaim.holds_of_wide 14 Tryz.f14 rfl rfl rfl rfl rfl rfl rfl ⟨rfl,rfl,rfl,rfl,rfl⟩ rfl rfl rfl rfl rfl (by kernel_rfl) Tryz.func14 (by kernel_rfl)
  (of_decide_eq_true (by kernel_rfl)) (by unfold Func.isWrapper;first|(rw[if_pos (by decide+kernel)];kernel_rfl)|(rw[if_neg (by decide+kernel)];exact⟨rfl,rfl⟩))
  (fun os started H enc _=>walkLive_lifted os started H enc)
#print axioms walkLive_holds
end Go.Proofs.YtibemcgdmembeaaGreat
