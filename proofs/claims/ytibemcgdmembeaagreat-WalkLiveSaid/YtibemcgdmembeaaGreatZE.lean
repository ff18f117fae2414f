/- A new object keeps what is true of objects. No program in sight. Conditions: a core whose parts fit its configuration. -/
import Derived.Test.YtibemcgdmembeaaGreatRows
import Derived.Test.YtibemcgdmembeaaGreatZN
import Derived.Test.YtibemcgdmembeaaGreatZA
import Derived.Test.YtibemcgdmembeaaGreatZB
import Derived.Test.YtibemcgdmembeaaGreatZD
set_option linter.unusedVariables false
set_option linter.unusedSimpArgs false
set_option maxRecDepth 100000
set_option maxHeartbeats 4000000
namespace Go.Proofs.YtibemcgdmembeaaGreat
open Go.RowKit
theorem Vh{ws:List Int}{i:Int}(h:i<0∨(ws.length:Int)<=i):rd ws i=0:=by
 unfold rd
 split
 ·have:ws.length<=i.toNat:=by omega
  simp[List.getD,List.getElem?_eq_none this]
 ·rfl
theorem kL{n:Nat}{i k:Int}:kU n i k=true↔0<=i/\0<=k/\i<=n/\k<=n-i:=by simp[kU]
theorem Bv(ws:List Int)(i:Int):oU ws i=rd ws i:=by
 unfold oU
 split
 ·rfl
 ·rename_i h
  rw[Vh]
  simp only[kL]at h
  omega
theorem vZ{ws:List Int}{i:Int}(h:0<=i)(h2:i<ws.length)(v j:Int):rd (iQ ws i v) j=if j=i then v else rd ws j:=by
 have hh:kU ws.length i 1=true:=by rw[kL];omega
 unfold iQ wr
 rw[if_pos hh,if_pos h]
 unfold rd
 by_cases hj:0<=j
 ·rw[if_pos hj,if_pos hj]
  simp only[List.getD,List.getElem?_set]
  by_cases e:j=i
  ·subst e
   have:j.toNat<ws.length:=by omega
   simp[this]
  ·have:i.toNat≠j.toNat:=by omega
   simp[this,e]
 ·rw[if_neg hj,if_neg hj,if_neg (by omega)]
theorem iC(ws:List Int)(i v:Int):(iQ ws i v).length=ws.length:=by
 unfold iQ wr
 split
 ·split<;>simp
 ·rfl
theorem PK{ws xs:List Int}{i:Nat}(h:i+xs.length<=ws.length)(j:Int):rd (lay ws i xs) j=if(i:Int)<=j/\j<i+xs.length then xs.getD (j.toNat-i) 0 else rd ws j:=by
 unfold rd
 by_cases hj:0<=j
 ·simp only[if_pos hj]
  obtain⟨n,rfl⟩: ∃n:Nat,j=n:=⟨j.toNat,by omega⟩
  simp only[Int.toNat_natCast,lay,List.getD,List.getElem?_append,List.length_append,List.length_take]
  have hm:min i ws.length=i:=by omega
  rw[hm]
  by_cases h1:n<i
  ·rw[if_pos (by omega),if_pos h1,if_neg (by omega)]
   simp[List.getElem?_take,h1]
  ·by_cases h2:n<i+xs.length
   ·rw[if_pos (by omega),if_neg h1,if_pos (by omega)]
   ·rw[if_neg (by omega),if_neg (by omega),List.getElem?_drop]
    congr 2
    omega
 ·rw[if_neg hj,if_neg hj,if_neg (by omega)]
theorem RG{ws:List Int}{i:Int}{n:Nat}(h:0<=i)(h2:i+n<=ws.length)(j:Int):rd (mX ws i n) j=if i<=j/\j<i+n then 0 else rd ws j:=by
 have hh:kU ws.length i n=true:=by rw[kL];omega
 unfold mX
 rw[if_pos hh,PK (by simp;omega)]
 simp only[List.length_replicate]
 have:((i.toNat:Nat):Int)=i:=by omega
 rw[this]
 split
 ·simp[List.getD,List.getElem?_replicate]
  split<;>rfl
 ·rfl
theorem xW{ws:List Int}{i:Int}{n:Nat}:(mX ws i n).length=ws.length:=by
 unfold mX
 split
 ·rename_i h
  rw[kL]at h
  exact pM _ _ _ (by simp;omega)
 ·rfl
theorem Ff{x:Int}(h:0<=x)(h2:x<18446744073709551616):u64 x=x:=by unfold u64;omega
theorem JB{ws:List Int}{i:Int}(h:0<=i)(h2:i+1<ws.length)(hL:ws.length<=1048576)(to j:Int):rd (ji ws i to) j=if j=i+1 then u64 to else rd ws j:=by
 unfold ji
 rw[if_pos (by omega),vZ (by omega) (by omega)]
theorem xX(ws:List Int)(i to:Int):(ji ws i to).length=ws.length:=by
 unfold ji
 split
 ·exact iC ..
 ·rfl
theorem RH{ws:List Int}{i:Int}{x:Hd}(hg:x.Good)(h:0<=i)(h2:i+x.words<=ws.length)(hL:ws.length<=1048576)(j:Int):
  rd (iT ws i x) j=if j=i then x.enc else if j=i+1 then i else if i<=j/\j<i+x.words then 0 else rd ws j:=by
 obtain⟨hn,hn0⟩:=Hd.rG hg
 have hw:2<=x.words:=by have:=hg.1;unfold Hd.words;omega
 have hh:kU ws.length i x.words=true:=by rw[kL];omega
 unfold iT
 rw[if_pos hh,JB h (by rw[iC,xW];omega) (by rw[iC,xW];exact hL),vZ h (by rw[xW];omega),RG h (by omega),Ff h (by omega)]
 have e:i+((x.words.toNat:Nat):Int)=i+x.words:=by omega
 rw[e]
 by_cases e1:j=i
 ·rw[if_neg (by omega),if_pos e1,if_pos e1]
 ·rw[if_neg e1,if_neg e1]
theorem oH{i n:Int}(h:0<=i)(h2:i<=1048576)(h3:0<=n)(h4:n<64):place i n=i+2+n:=by
 unfold place
 rw[if_pos ⟨h,h2,h3,h4⟩]
theorem Ns{l:List Int}{i:Int}:bY l i=true↔0<=i/\i<l.length:=by simp[bY]
theorem pV{l:List Int}{i:Int}(h:bY l i=false):aB l i=0:=by simp[aB,h]
theorem Nu{l:List Int}{i:Int}(h:bY l i=true):bI l i=0:=by simp[bI,h]
end Go.Proofs.YtibemcgdmembeaaGreat
namespace Go.Proofs.YtibemcgdmembeaaGreat
open Go.RowKit
theorem dX(ws:List Int)(a:Int):ag ws a=Ai (rd ws a):=by rw[ag,Bv]
theorem dR{ws:List Int}{a:Int}(h:0<=a)(h2:a<=1048576){k:Int}(h3:0<=k)(h4:k<64):aQ ws a k=wrap64 (rd ws (a+2+k)):=by rw[aQ,Bv,oH h h2 h3 h4]
theorem f_{ws:List Int}{a:Int}(h:0<=a)(h2:a<=1048576):bH ws a=wrap64 (rd ws (a+1)):=by rw[bH,if_pos ⟨h,h2⟩,Bv]
theorem aA(ws:List Int)(a:Int):2<=(ag ws a).words/\ (ag ws a).words<=66/\ (ag ws a).words=(ag ws a).size+2/\0<=(ag ws a).ptrs/\ (ag ws a).ptrs<=(ag ws a).size:=by
 obtain⟨g1,g2,g3,g4,_⟩:=dU (oU ws a)
 have e:(ag ws a).words=(ag ws a).size+2:=rfl
 have e2:(ag ws a)=Ai (oU ws a):=rfl
 rw[e2]at e⊢
 omega
def Same(ws ws':List Int)(a n:Int):Prop:= ∀p,a<=p->p<a+n->rd ws' p=rd ws p
theorem Same.head{ws ws':List Int}{a n:Int}(h:Same ws ws' a n)(hn:1<=n):ag ws' a=ag ws a:=by
 rw[dX,dX,h a (by omega) (by omega)]
theorem Same.way{ws ws':List Int}{a n:Int}(h:Same ws ws' a n)(hn:2<=n)(h0:0<=a)(h1:a<=1048576):bH ws' a=bH ws a:=by
 rw[f_ h0 h1,f_ h0 h1,h (a+1) (by omega) (by omega)]
theorem Same.ref{ws ws':List Int}{a n:Int}(h:Same ws ws' a n)(h0:0<=a)(h1:a<=1048576){k:Int}(hk:0<=k)(hk2:k<64)(hn:k+2<n):aQ ws' a k=aQ ws a k:=by
 rw[dR h0 h1 hk hk2,dR h0 h1 hk hk2,h (a+2+k) (by omega) (by omega)]
def ig(ws:List Int):Int->Int->List Int->Prop
 |f,t,[]=>f=t
 |f,t,a::l=>a=f/\ig ws (f+(ag ws f).words) t l
theorem ig.le{ws:List Int}: ∀{l:List Int} {f t:Int},ig ws f t l->f<=t
 |[],f,t,h=>by simp only[ig]at h;omega
 |a::l,f,t,h=>by
  have:=ig.le h.2
  have:=(aA ws f).1
  omega
theorem ig.mem{ws:List Int}: ∀{l:List Int} {f t a:Int},ig ws f t l->a∈l->f<=a/\a+(ag ws a).words<=t
 |[],f,t,a,_,h=>by cases h
 |b::l,f,t,a,h,hm=>by
  obtain⟨rfl,h2⟩:=h
  have:=(aA ws b).1
  rcases List.mem_cons.1 hm with rfl|hm
  ·exact⟨Int.le_refl _,h2.le⟩
  ·have:=ig.mem h2 hm
   omega
theorem ig.apart{ws:List Int}: ∀{l:List Int} {f t a b:Int},ig ws f t l->a∈l->b∈l->a≠b->a+(ag ws a).words<=b∨b+(ag ws b).words<=a
 |[],_,_,_,_,_,h,_,_=>by cases h
 |c::l,f,t,a,b,h,ha,hb,hne=>by
  obtain⟨rfl,h2⟩:=h
  rcases List.mem_cons.1 ha with e1|ha2
  ·rcases List.mem_cons.1 hb with e2|hb2
   ·exact absurd (e1.trans e2.symm) hne
   ·rw[e1]
    exact .inl (ig.mem h2 hb2).1
  ·rcases List.mem_cons.1 hb with e2|hb2
   ·rw[e2]
    exact .inr (ig.mem h2 ha2).1
   ·exact ig.apart h2 ha2 hb2 hne
theorem ig.frame{ws ws':List Int}: ∀{l:List Int} {f t:Int},ig ws f t l->(∀a∈l,(ag ws' a).words=(ag ws a).words)->ig ws' f t l
 |[],_,_,h,_=>h
 |a::l,f,t,h,hs=>by
  obtain⟨rfl,h2⟩:=h
  refine⟨rfl, ?_⟩
  rw[hs a (List.mem_cons_self ..)]
  exact ig.frame h2 (fun b hb=>hs b (List.mem_cons_of_mem _ hb))
theorem ig.snoc{ws:List Int}: ∀{l:List Int} {f t:Int},ig ws f t l->ig ws f (t+(ag ws t).words) (l++[t])
 |[],f,t,h=>by
  simp only[ig]at h
  subst h
  exact⟨rfl,rfl⟩
 |a::l,f,t,h=>by
  obtain⟨rfl,h2⟩:=h
  exact⟨rfl,ig.snoc h2⟩
theorem ig.next{ws:List Int}: ∀{l:List Int} {f t a:Int},ig ws f t l->a∈l->a+(ag ws a).words=t∨a+(ag ws a).words∈l
 |[],_,_,_,_,h=>by cases h
 |b::l,f,t,a,h,hm=>by
  obtain⟨rfl,h2⟩:=h
  rcases List.mem_cons.1 hm with rfl|hm
  ·cases l with
   |nil=>exact .inl h2
   |cons c l=>exact .inr (by rw[h2.1];simp)
  ·rcases ig.next h2 hm with h|h
   ·exact .inl h
   ·exact .inr (List.mem_cons_of_mem _ h)
theorem ig.first{ws:List Int}{l:List Int}{f t:Int}(h:ig ws f t l):f=t∨f∈l:=by
 cases l with
 |nil=>exact .inl h
 |cons a l=>exact .inr (by rw[h.1];simp)
theorem ig.nodup{ws:List Int}: ∀{l:List Int} {f t:Int},ig ws f t l->l.Nodup
 |[],_,_,_=>List.nodup_nil
 |a::l,f,t,h=>by
  obtain⟨rfl,h2⟩:=h
  refine List.nodup_cons.2 ⟨fun hm=> ?_,ig.nodup h2⟩
  have:=(ig.mem h2 hm).1
  have:=(aA ws a).1
  omega
theorem PM{ws:List Int}{i n j:Nat}(h:i+n<=ws.length)(hj:j<n):(seg ws i n).getD j 0=rd ws ((i+j:Nat):Int):=by
 unfold seg rd
 rw[if_pos (by omega)]
 simp only[List.getD,List.getElem?_take,List.getElem?_drop,Int.toNat_natCast]
 rw[if_pos hj]
theorem RI{ws:List Int}{i j:Int}{x:Hd}(hg:x.Good)(hi:0<=i)(hi2:i+x.words<=ws.length)(hj:0<=j)(hj2:j+x.words<=ws.length)(hL:ws.length<=1048576)(hne:i+x.words<=j∨j+x.words<=i)(p:Int):
  rd (jZ ws i j x) p=if p=i+1 then j else if p=j then x.enc else if p=j+1 then j else if j<=p/\p<j+x.words then rd ws (p-j+i)else rd ws p:=by
 obtain⟨hn,hn0⟩:=Hd.rG hg
 have hw:2<=x.words:=by have:=hg.1;unfold Hd.words;omega
 obtain⟨n,hnn⟩: ∃n,n=x.words.toNat:=⟨_,rfl⟩
 rw[<-hnn]at hn hn0
 have hok:lZ ws i j n=true:=by
  unfold lZ
  rw[Bool.and_eq_true,kL,kL]
  omega
 have hlen:(mF ws i j n).length=ws.length:=by
  unfold mF
  rw[if_pos hok]
  exact pM _ _ _ (by rw[nM _ _ _ (by omega)];omega)
 unfold jZ
 rw[<-hnn,if_pos hok]
 rw[JB hi (by rw[xX,iC,hlen];omega) (by rw[xX,iC,hlen];exact hL)]
 rw[JB hj (by rw[iC,hlen];omega) (by rw[iC,hlen];exact hL)]
 rw[vZ hj (by rw[hlen];omega),Ff hj (by omega)]
 have hc:rd (mF ws i j n) p=if j<=p/\p<j+x.words then rd ws (p-j+i)else rd ws p:=by
  unfold mF
  rw[if_pos hok,PK (by rw[nM _ _ _ (by omega)];omega),nM _ _ _ (by omega)]
  have e:((j.toNat:Nat):Int)=j:=by omega
  rw[e,hn]
  by_cases hp:j<=p/\p<j+(n:Int)
  ·rw[if_pos hp,if_pos hp,PM (by omega) (by omega)]
   congr 1
   omega
  ·rw[if_neg hp,if_neg hp]
 rw[hc]
 by_cases e1:p=i+1
 ·rw[if_pos e1,if_pos e1]
 ·rw[if_neg e1,if_neg e1]
  by_cases e2:p=j+1
  ·rw[if_pos e2,if_neg (by omega),if_pos e2]
  ·rw[if_neg e2]
   by_cases e3:p=j
   ·rw[if_pos e3,if_pos e3]
   ·rw[if_neg e3,if_neg e3,if_neg e2]
theorem PN{ws:List Int}{i j:Int}{x:Hd}:(jZ ws i j x).length=ws.length:=by
 unfold jZ
 split
 ·rename_i h
  rw[xX,xX,iC]
  unfold mF
  rw[if_pos h]
  unfold lZ at h
  rw[Bool.and_eq_true,kL,kL]at h
  refine pM _ _ _ ?_
  rw[nM _ _ _ (by omega)]
  omega
 ·rfl
end Go.Proofs.YtibemcgdmembeaaGreat
namespace Go.Proofs.YtibemcgdmembeaaGreat
open Go.RowKit
structure Lay(s:af)(cur az:List Int):Prop where
 cf:s.C.Fits
 ov:s.o.V
 ob:s.o.base=1+2*s.C.aU
 ow:s.o.words=s.C.page
 ol:(s.o.pages.length:Int)=s.C.pages
 f0:s.y.f0=1
 f1:s.y.f1=1+s.C.aU
 yw:s.y.words=s.C.aU
 u0:0<=s.y.u0/\s.y.u0<=s.C.aU
 u1:0<=s.y.u1/\s.y.u1<=s.C.aU
 wl:(s.ws.length:Int)=s.C.words
 rc:ig s.ws s.y.cf (s.y.cf+s.y.cu) cur
 ro:ig s.ws s.y.of (s.y.of+s.y.ou) az
 fit: ∀a z,s.o.aH a=some z->z=cellOf s.o.words (ag s.ws a).words
def gQ(s:af)(cur az:List Int)(a:Int):Prop:=a∈cur∨a∈az∨(s.o.aH a).isSome=true
theorem rH{page words:Int}(h:16<=page)(h1:1<=words)(h2:words<=66):words<=cellOf page words:=by
 unfold cellOf
 split
 ·exact(fU h1 h2 h).2.2
 ·exact Uw (by omega)
section
variable{s:af}{cur az:List Int}
theorem Lay.nums(l:Lay s cur az):8<=s.C.aU/\s.C.aU<=4096/\0<=s.C.pages*s.C.page/\s.C.pages*s.C.page<=16384/\ (s.ws.length:Int)=1+2*s.C.aU+s.C.pages*s.C.page/\0<=s.y.cu/\s.y.cu<=s.C.aU/\0<=s.y.ou/\s.y.ou<=s.C.aU/\
  ((s.y.cf=1/\s.y.of=1+s.C.aU)∨(s.y.cf=1+s.C.aU/\s.y.of=1)):=by
 have hp:=gX.pU l.cf.small
 have h1:=l.wl
 have h2:=l.cf.n1
 have h3:=l.cf.n2
 have h4:=l.u0
 have h5:=l.u1
 have h6:=l.f0
 have h7:=l.f1
 unfold gX.words gX.jv at h1
 unfold aJ.cu aJ.ou aJ.cf aJ.of
 split<;>omega
theorem Lay.qp(l:Lay s cur az){a:Int}(h:(s.o.aH a).isSome=true):1+2*s.C.aU<=a/\a+(ag s.ws a).words<=s.ws.length:=by
 obtain⟨z,hz⟩:=Option.isSome_iff_exists.1 h
 obtain⟨h1,h2,h3⟩:=rq l.ov hz
 have hf:=l.fit a z hz
 obtain⟨b1,b2,_⟩:=aA s.ws a
 have hc:=rH (page:=s.o.words) l.ov.w16 (show 1<=(ag s.ws a).words by omega) b2
 obtain⟨n1,n2,n3,n4,n5,_⟩:=l.nums
 rw[l.ob]at h1
 rw[l.ob,l.ol,l.ow]at h3
 omega
theorem Lay.lT(l:Lay s cur az){a:Int}(h:a∈cur):s.y.cf<=a/\a+(ag s.ws a).words<=s.y.cf+s.y.cu:=l.rc.mem h
theorem Lay.oI(l:Lay s cur az){a:Int}(h:a∈az):s.y.of<=a/\a+(ag s.ws a).words<=s.y.of+s.y.ou:=l.ro.mem h
theorem Lay.pos(l:Lay s cur az){a:Int}(h:gQ s cur az a):1<=a/\a+(ag s.ws a).words<=s.ws.length/\a<=1048576/\s.ws.length<=1048576:=by
 obtain⟨n1,n2,n3,n4,n5,n6,n7,n8,n9,n10⟩:=l.nums
 have hb:=(aA s.ws a).1
 rcases h with h|h|h
 ·have:=l.lT h
  omega
 ·have:=l.oI h
  omega
 ·have:=l.qp h
  omega
theorem Lay.apart(l:Lay s cur az){a b:Int}(ha:gQ s cur az a)(hb:gQ s cur az b)(hne:a≠b):a+(ag s.ws a).words<=b∨b+(ag s.ws b).words<=a:=by
 obtain⟨n1,n2,n3,n4,n5,n6,n7,n8,n9,n10⟩:=l.nums
 have ba:=(aA s.ws a).1
 have bb:=(aA s.ws b).1
 rcases ha with ha|ha|ha<;>rcases hb with hb|hb|hb
 ·exact l.rc.apart ha hb hne
 ·have:=l.lT ha;have:=l.oI hb;omega
 ·have:=l.lT ha;have:=l.qp hb;omega
 ·have:=l.oI ha;have:=l.lT hb;omega
 ·exact l.ro.apart ha hb hne
 ·have:=l.oI ha;have:=l.qp hb;omega
 ·have:=l.qp ha;have:=l.lT hb;omega
 ·have:=l.qp ha;have:=l.oI hb;omega
 ·obtain⟨y,hy⟩:=Option.isSome_iff_exists.1 ha
  obtain⟨z,hz⟩:=Option.isSome_iff_exists.1 hb
  have h1:=xM l.ov hy hz hne
  have f1:=l.fit a y hy
  have f2:=l.fit b z hz
  obtain⟨_,b2,_⟩:=aA s.ws a
  obtain⟨_,b4,_⟩:=aA s.ws b
  have c1:=rH (page:=s.o.words) l.ov.w16 (show 1<=(ag s.ws a).words by omega) b2
  have c2:=rH (page:=s.o.words) l.ov.w16 (show 1<=(ag s.ws b).words by omega) b4
  omega
theorem Lay.gz(l:Lay s cur az){a:Int}(h:a∈az):s.y.dI a=true:=by
 have:=l.oI h
 have:=(aA s.ws a).1
 simp only[aJ.dI,decide_eq_true_eq]
 omega
theorem Lay.fK(l:Lay s cur az){a:Int}(h:a∈cur∨(s.o.aH a).isSome=true):s.y.dI a=false:=by
 obtain⟨n1,n2,n3,n4,n5,n6,n7,n8,n9,n10⟩:=l.nums
 have:=(aA s.ws a).1
 simp only[aJ.dI,decide_eq_false_iff_not]
 rcases h with h|h
 ·have:=l.lT h
  omega
 ·have:=l.qp h
  omega
theorem Lay.Vj(l:Lay s cur az){a:Int}(h:a∈cur):s.y.isIn a=true:=by
 have:=l.lT h
 have:=(aA s.ws a).1
 simp only[aJ.isIn,decide_eq_true_eq]
 omega
def bV(s:af)(a:Int):Prop:=1+2*s.C.aU<=a/\a<s.ws.length
theorem Lay.kC(l:Lay s cur az){a:Int}(h:(s.o.aH a).isSome=true):bV s a:=by
 have:=l.qp h
 have:=(aA s.ws a).1
 exact⟨by omega,by omega⟩
theorem Lay.PO(l:Lay s cur az){a:Int}(h:a∈az∨bV s a∨a=0):s.y.isIn a=false:=by
 obtain⟨n1,n2,n3,n4,n5,n6,n7,n8,n9,n10⟩:=l.nums
 have:=(aA s.ws a).1
 simp only[aJ.isIn,decide_eq_false_iff_not]
 rcases h with h|h|h
 ·have:=l.oI h
  omega
 ·have:=h.1
  omega
 ·omega
theorem Lay.jl(l:Lay s cur az){a:Int}(h:bV s a∨a=0):s.y.dI a=false:=by
 obtain⟨n1,n2,n3,n4,n5,n6,n7,n8,n9,n10⟩:=l.nums
 simp only[aJ.dI,decide_eq_false_iff_not]
 rcases h with h|h
 ·have:=h.1
  omega
 ·omega
end
structure xY(s:af)(cur az:List Int)(a:Int)(s':af)(cur':List Int)(t:Int):Prop where
 lay:Lay s' cur' az
 PR:cur'=if s.lD a then cur else cur++[t]
 old:s.lD a=true->(s'.o.aH t).isSome=true/\bV s t
 size: ∀b,b≠t∨s.lD a=false->s'.o.aH b=s.o.aH b
 new: ¬gQ s cur az t
 okT:lq (rd s'.ws t)=true
 rdA:rd s'.ws a=rd s.ws a
 yT:s.lD a=false->t=s.y.cf+s.y.cu
 JC:ag s'.ws t=s.sO a
 WC:bH s'.ws t=t
 Nv: ∀k,0<=k->k+2<(ag s.ws a).words->rd s'.ws (t+2+k)=rd s.ws (a+2+k)
 hdA:ag s'.ws a=ag s.ws a
 RJ:bH s'.ws a=t
 YC: ∀k,0<=k->k+2<(ag s.ws a).words->rd s'.ws (a+2+k)=rd s.ws (a+2+k)
 rest: ∀b,gQ s cur az b->b≠a->Same s.ws s'.ws b (ag s.ws b).words
 pos:1<=t/\t<=1048576
 wl:s'.ws.length=s.ws.length
 y:s'.y={s.y with u0:=s'.y.u0,u1:=s'.y.u1}/\s'.y.ou=s.y.ou/\s'.y.cu=if s.lD a then s.y.cu else s.y.cu+(ag s.ws a).words
theorem yP{s:af}(hp:s.parity=0∨s.parity=1)(a:Int):(s.sO a).Good/\ (s.sO a).words=(ag s.ws a).words/\ (s.sO a).size=(ag s.ws a).size/\ (s.sO a).ptrs=(ag s.ws a).ptrs/\ (s.sO a).old=s.lD a/\ (s.sO a).aY=(ag s.ws a).aY:=by
 obtain⟨g1,g2,g3,g4,g5,g6,g7⟩:=dU (oU s.ws a)
 have e2:(ag s.ws a)=Ai (oU s.ws a):=rfl
 rw[<-e2]at g1 g2 g3 g4 g5 g6 g7
 have hA:0<=s.oW a/\s.oW a<=7:=by unfold af.oW;omega
 unfold af.sO
 split
 ·exact⟨⟨g1,g2,g3,g4,hA.1,hA.2,g7⟩,rfl,rfl,rfl,rfl,rfl⟩
 ·exact⟨⟨g1,g2,g3,g4,hA.1,hA.2,hp⟩,rfl,rfl,rfl,rfl,rfl⟩
theorem PS{s:af}{cur az:List Int}(l:Lay s cur az)(hp:s.parity=0∨s.parity=1){a:Int}(ha:a∈az)(hroom:(ag s.ws a).words<=s.y.room):
  ∃cur',xY s cur az a (s.moved a) cur' (s.kD a):=by
 obtain⟨n1,n2,n3,n4,n5,n6,n7,n8,n9,n10⟩:=l.nums
 have GV:gQ s cur az a:= .inr (.inl ha)
 obtain⟨pa1,YD,pa3,pa4⟩:=l.pos GV
 obtain⟨hg,hwx,_,_,hox,_⟩:=yP hp a
 obtain⟨b1,b2,b3,_⟩:=aA s.ws a
 have haR:=l.oI ha
 have key: ∀(t:Int) (o':aP) (y':aJ) (cur':List Int),s.kD a=t->(s.moved a).o=o'->(s.moved a).y=y'->1<=t->t+(ag s.ws a).words<=s.ws.length->
   (∀b,gQ s cur az b->t+(ag s.ws a).words<=b∨b+(ag s.ws b).words<=t)->
   (rd (s.moved a).ws t=(s.sO a).enc/\ag (s.moved a).ws t=s.sO a/\bH (s.moved a).ws t=t/\ag (s.moved a).ws a=ag s.ws a/\rd (s.moved a).ws a=rd s.ws a/\bH (s.moved a).ws a=t/\
    (∀k,0<=k->k+2<(ag s.ws a).words->rd (s.moved a).ws (t+2+k)=rd s.ws (a+2+k))/\
    (∀k,0<=k->k+2<(ag s.ws a).words->rd (s.moved a).ws (a+2+k)=rd s.ws (a+2+k))/\
    (∀b,gQ s cur az b->b≠a->Same s.ws (s.moved a).ws b (ag s.ws b).words)/\ (s.moved a).ws.length=s.ws.length):=by
  intro t o' y' cur' ht _ _ t1 t2 hfree
  have hws:(s.moved a).ws=jZ s.ws a t (s.sO a):=by rw[<-ht];rfl
  have hne:=hfree a GV
  have hrd:=fun p=>RI (p:=p) hg (by omega:0<=a) (by rw[hwx];exact YD) (by omega:0<=t) (by rw[hwx];exact t2) (by omega) (by rw[hwx];omega)
  rw[hwx]at hrd
  have hlen:(s.moved a).ws.length=s.ws.length:=by rw[hws,PN]
  have w1:rd (s.moved a).ws t=(s.sO a).enc:=by rw[hws,hrd,if_neg (by omega),if_pos rfl]
  have w2:rd (s.moved a).ws a=rd s.ws a:=by rw[hws,hrd,if_neg (by omega),if_neg (by omega),if_neg (by omega),if_neg (by omega)]
  refine⟨w1, ?_, ?_, ?_,w2, ?_, ?_, ?_, ?_,hlen⟩
  ·rw[dX,w1,Aj hg]
  ·rw[f_ (by omega) (by omega),hws,hrd,if_neg (by omega),if_neg (by omega),if_pos rfl]
   exact pq ⟨by omega,by omega⟩
  ·rw[dX,w2,dX]
  ·rw[f_ (by omega) (by omega),hws,hrd,if_pos rfl]
   exact pq ⟨by omega,by omega⟩
  ·intro k k0 k1
   rw[hws,hrd,if_neg (by omega),if_neg (by omega),if_neg (by omega),if_pos (by omega)]
   congr 1
   omega
  ·intro k k0 k1
   rw[hws,hrd,if_neg (by omega),if_neg (by omega),if_neg (by omega),if_neg (by omega)]
  ·intro b hb hba p p1 p2
   have h1:=hfree b hb
   have h2:=l.apart hb GV hba
   rw[hws,hrd,if_neg (by omega),if_neg (by omega),if_neg (by omega),if_neg (by omega)]
 have hmT:s.kD a=s.lX (ag s.ws a).words (s.oW a):=rfl
 have hmO:s.lD a=(s.lW (ag s.ws a).words (s.oW a)).isSome:=rfl
 have hmo:(s.moved a).o=(s.placed (ag s.ws a).words (s.oW a)).o:=rfl
 have hmy:(s.moved a).y=(s.placed (ag s.ws a).words (s.oW a)).y:=rfl
 have FX:(s.moved a).C=s.C:=by
  show(s.placed (ag s.ws a).words (s.oW a)).C=s.C
  unfold af.placed
  split<;>rfl
 have RN: ∀{ws':List Int} {f t:Int} {lst:List Int},ig s.ws f t lst->(∀b∈lst,gQ s cur az b)->(∀b,gQ s cur az b->b≠a->Same s.ws ws' b (ag s.ws b).words)->ag ws' a=ag s.ws a->ig ws' f t lst:=by
  intro ws' f t lst hr hi hs hA
  refine hr.frame fun b hb=> ?_
  by_cases e:b=a
  ·rw[e,hA]
  ·have:=(aA s.ws b).1
   rw[(hs b (hi b hb) e).head (by omega)]
 have hna:(s.o.aH a).isSome=false:=by
  cases hq:(s.o.aH a).isSome
  ·rfl
  ·have:=l.qp hq
   omega
 cases hT:s.lW (ag s.ws a).words (s.oW a)with
 |some x=>
  obtain⟨t,o'⟩:=x
  have YE:s.o.take (ag s.ws a).words=some (t,o'):=by
   unfold af.lW at hT
   split at hT
   ·exact hT
   ·cases hT
  have T:=MO l.ov (by omega) b2 YE
  have e1:s.kD a=t:=by rw[hmT,af.lX,hT]
  have e2:s.lD a=true:=by rw[hmO,hT];rfl
  have e3:(s.moved a).o=o':=by rw[hmo,af.placed,hT]
  have e4:(s.moved a).y=s.y:=by rw[hmy,af.placed,hT]
  obtain⟨i1,i2,i3⟩:=rq T.v T.size
  rw[T.base,l.ob]at i1
  rw[T.base,T.len,T.ws,l.ob,l.ol,l.ow]at i3
  have hcl:=rH (page:=s.o.words) l.ov.w16 (show 1<=(ag s.ws a).words by omega) b2
  rw[l.ow]at hcl
  have t2:t+(ag s.ws a).words<=s.ws.length:=by omega
  have hold: ∀b,(s.o.aH b).isSome=true->b≠t:=by
   intro b hb e
   rw[e,T.new]at hb
   cases hb
  have hfree: ∀b,gQ s cur az b->t+(ag s.ws a).words<=b∨b+(ag s.ws b).words<=t:=by
   intro b hb
   rcases hb with hb|hb|hb
   ·have:=l.lT hb;omega
   ·have:=l.oI hb;omega
   ·obtain⟨z,hz⟩:=Option.isSome_iff_exists.1 hb
    have h1:=T.rest b (hold b hb)
    rw[hz]at h1
    have h2:=xM T.v T.size h1 (fun e=>hold b hb e.symm)
    have f2:=l.fit b z hz
    obtain⟨c1,c2,_⟩:=aA s.ws b
    have c4:=rH (page:=s.o.words) l.ov.w16 (show 1<=(ag s.ws b).words by omega) c2
    rw[l.ow]at h2 c4 f2
    omega
  obtain⟨k0,k1,k2,k3,kA,k4,k5,k6,k7,k8⟩:=key t o' s.y cur e1 e3 e4 (by omega) t2 hfree
  have Vk:Lay (s.moved a) cur az:=by
   refine⟨by rw[FX];exact l.cf,by rw[e3];exact T.v,by rw[e3,FX,T.base];exact l.ob,by rw[e3,FX,T.ws];exact l.ow,by rw[e3,FX,T.len];exact l.ol,by rw[e4];exact l.f0,by rw[e4,FX];exact l.f1,by rw[e4,FX];exact l.yw,by rw[e4,FX];exact l.u0,by rw[e4,FX];exact l.u1,by rw[k8,FX];exact l.wl, ?_, ?_, ?_⟩
   ·rw[e4];exact RN l.rc (fun b hb=> .inl hb) k7 k3
   ·rw[e4];exact RN l.ro (fun b hb=> .inr (.inl hb)) k7 k3
   ·intro b z hz
    rw[e3]at hz⊢
    rw[T.ws]
    by_cases e:b=t
    ·subst e
     rw[T.size]at hz
     cases hz
     rw[k1,hwx]
    ·rw[T.rest b e]at hz
     have hb:gQ s cur az b:= .inr (.inr (by rw[hz];rfl))
     have hba:b≠a:=by
      intro e
      rw[<-e,hz]at hna
      cases hna
     have:=(aA s.ws b).1
     rw[(k7 b hb hba).head (by omega)]
     exact l.fit b z hz
  refine⟨cur, ?_⟩
  rw[e1]
  refine⟨Vk,by rw[e2];rfl,fun _=>⟨by rw[e3,T.size];rfl,by omega,by omega⟩, ?_, ?_,by rw[k0,rJ hg],kA,(fun h=>by rw[e2]at h;cases h),k1,k2,k5,k3,k4,k6,k7,⟨by omega,by omega⟩,k8,by rw[e4],by rw[e4],by rw[e4,e2];rfl⟩
  ·intro b hb
   rw[e3]
   rcases hb with hb|hb
   ·exact T.rest b hb
   ·rw[e2]at hb;cases hb
  ·intro hI
   have:=(aA s.ws t).1
   rcases hI with h|h|h
   ·have:=l.lT h;omega
   ·have:=l.oI h;omega
   ·rw[T.new]at h;cases h
 |none=>
  have hok:s.y.iZ (ag s.ws a).words=true:=by
   simp only[aJ.iZ,decide_eq_true_eq]
   omega
  have e1:s.kD a=s.y.cf+s.y.cu:=by rw[hmT,af.lX,hT];show s.y.di _=_;rw[aJ.di,if_pos hok]
  have e2:s.lD a=false:=by rw[hmO,hT];rfl
  have e3:(s.moved a).o=s.o:=by rw[hmo,af.placed,hT]
  have e4:(s.moved a).y=s.y.take (ag s.ws a).words:=by rw[hmy,af.placed,hT]
  have PT:s.y.cu+(ag s.ws a).words<=s.C.aU:=by
   have:=l.yw
   unfold aJ.room at hroom
   omega
  have y1:(s.y.take (ag s.ws a).words).cf=s.y.cf/\ (s.y.take (ag s.ws a).words).cu=s.y.cu+(ag s.ws a).words/\ (s.y.take (ag s.ws a).words).of=s.y.of/\ (s.y.take (ag s.ws a).words).ou=s.y.ou/\ (s.y.take (ag s.ws a).words).f0=s.y.f0/\ (s.y.take (ag s.ws a).words).f1=s.y.f1/\ (s.y.take (ag s.ws a).words).words=s.y.words/\
    (0<=(s.y.take (ag s.ws a).words).u0/\ (s.y.take (ag s.ws a).words).u0<=s.C.aU)/\ (0<=(s.y.take (ag s.ws a).words).u1/\ (s.y.take (ag s.ws a).words).u1<=s.C.aU)/\s.y.take (ag s.ws a).words={s.y with u0:=(s.y.take (ag s.ws a).words).u0,u1:=(s.y.take (ag s.ws a).words).u1}:=by
   have h4:=l.u0
   have h5:=l.u1
   unfold aJ.take
   rw[if_pos hok]
   unfold aJ.cu at PT⊢
   unfold aJ.cf aJ.of aJ.ou
   cases dQ:s.y.now<;>simp[dQ]at PT⊢ <;>omega
  obtain⟨y1,y2,y3,y4,y5,y6,y7,y8,y9,Oy⟩:=y1
  have hfree: ∀b,gQ s cur az b->s.y.cf+s.y.cu+(ag s.ws a).words<=b∨b+(ag s.ws b).words<=s.y.cf+s.y.cu:=by
   intro b hb
   have:=(aA s.ws b).1
   rcases hb with hb|hb|hb
   ·have:=l.lT hb;omega
   ·have:=l.oI hb;omega
   ·have:=l.qp hb;omega
  obtain⟨k0,k1,k2,k3,kA,k4,k5,k6,k7,k8⟩:=key _ s.o _ cur e1 e3 e4 (by omega) (by omega) hfree
  have Vk:Lay (s.moved a) (cur++[s.y.cf+s.y.cu]) az:=by
   refine⟨by rw[FX];exact l.cf,by rw[e3];exact l.ov,by rw[e3,FX];exact l.ob,by rw[e3,FX];exact l.ow,by rw[e3,FX];exact l.ol,by rw[e4,y5];exact l.f0,by rw[e4,y6,FX];exact l.f1,by rw[e4,y7,FX];exact l.yw,by rw[e4,FX];exact y8,by rw[e4,FX];exact y9,by rw[k8,FX];exact l.wl, ?_, ?_, ?_⟩
   ·rw[e4,y1,y2]
    have h1:=(RN l.rc (fun b hb=> .inl hb) k7 k3).snoc
    rw[k1,hwx]at h1
    rw[<-Int.add_assoc]
    exact h1
   ·rw[e4,y3,y4];exact RN l.ro (fun b hb=> .inr (.inl hb)) k7 k3
   ·intro b z hz
    rw[e3]at hz⊢
    have hb:gQ s cur az b:= .inr (.inr (by rw[hz];rfl))
    have hba:b≠a:=by
     intro e
     rw[<-e,hz]at hna
     cases hna
    have:=(aA s.ws b).1
    rw[(k7 b hb hba).head (by omega)]
    exact l.fit b z hz
  refine⟨cur++[s.y.cf+s.y.cu], ?_⟩
  rw[e1]
  refine⟨Vk,by rw[e2];simp,(fun h=>by rw[e2]at h;cases h),(fun b _=>by rw[e3]), ?_,by rw[k0,rJ hg],kA,(fun _=>rfl),k1,k2,k5,k3,k4,k6,k7,⟨by omega,by omega⟩,k8,by rw[e4];exact Oy,by rw[e4,y4],by rw[e4,y2,e2];simp⟩
  intro hI
  have:=hfree _ hI
  have:=(aA s.ws (s.y.cf+s.y.cu)).1
  omega
end Go.Proofs.YtibemcgdmembeaaGreat
namespace Go.Proofs.YtibemcgdmembeaaGreat
open Go.RowKit
def oK(ws:List Int)(l:List Int):Int:=lY (l.map fun a=>if bH ws a=a then 0 else(ag ws a).words)
theorem l_(ws:List Int)(a:Int)(l:List Int):oK ws (a::l)=(if bH ws a=a then 0 else(ag ws a).words)+oK ws l:=rfl
theorem rP{ws:List Int}: ∀{l:List Int} {f t:Int},ig ws f t l->0<=oK ws l/\oK ws l<=t-f
 |[],f,t,h=>by simp only[ig]at h;simp[oK,lY];omega
 |a::l,f,t,h=>by
  obtain⟨rfl,h2⟩:=h
  have ih:=rP h2
  have:=(aA ws a).1
  rw[l_]
  split<;>omega
theorem Bz{ws:List Int}: ∀{l:List Int} {f t a:Int},ig ws f t l->a∈l->bH ws a=a->oK ws l+(ag ws a).words<=t-f
 |[],_,_,_,_,h,_=>by cases h
 |b::l,f,t,a,h,hm,hw=>by
  obtain⟨rfl,h2⟩:=h
  have:=(aA ws b).1
  rw[l_]
  rcases List.mem_cons.1 hm with e|hm2
  ·have:=(rP h2).2
   subst e
   rw[if_pos hw]
   omega
  ·have:=Bz h2 hm2 hw
   split<;>omega
theorem mg{ws ws':List Int}: ∀{l:List Int},(∀a∈l,bH ws' a=bH ws a/\ (ag ws' a).words=(ag ws a).words)->oK ws' l=oK ws l
 |[],_=>rfl
 |a::l,h=>by
  obtain⟨h1,h2⟩:=h a (List.mem_cons_self ..)
  rw[l_,l_,h1,h2,mg (fun b hb=>h b (List.mem_cons_of_mem _ hb))]
theorem Eb{ws ws':List Int}{a t:Int}(ht:t≠a)(hA:bH ws' a=t)(hA2:(ag ws' a).words=(ag ws a).words)(hA3:bH ws a=a): ∀{l:List Int},l.Nodup->a∈l->(∀b∈l,b≠a->bH ws' b=bH ws b/\ (ag ws' b).words=(ag ws b).words)->oK ws' l=oK ws l+(ag ws a).words
 |[],_,h,_=>by cases h
 |b::l,hn,hm,hs=>by
  obtain⟨hn1,hn2⟩:=List.nodup_cons.1 hn
  rw[l_,l_]
  by_cases e:b=a
  ·subst e
   rw[hA,if_neg ht,hA3,if_pos rfl,hA2,mg (fun c hc=>hs c (List.mem_cons_of_mem _ hc) (fun e=>hn1 (e▸hc)))]
   omega
  ·have hm2:a∈l:=by
    rcases List.mem_cons.1 hm with h|h
    ·exact absurd h.symm e
    ·exact h
   obtain⟨h1,h2⟩:=hs b (List.mem_cons_self ..) e
   rw[h1,h2,Eb ht hA hA2 hA3 hn2 hm2 (fun c hc=>hs c (List.mem_cons_of_mem _ hc))]
   omega
structure YF(s:af)(cur az:List Int):Prop where
 par:s.parity=0∨s.parity=1
 Dv: ∀a∈cur,lq (rd s.ws a)=true/\ (ag s.ws a).old=false/\ (ag s.ws a).aY=false/\bH s.ws a=a
 Fg: ∀a∈az,lq (rd s.ws a)=true/\ (ag s.ws a).old=false/\ (ag s.ws a).aY=false/\ (bH s.ws a=a∨bH s.ws a∈cur∨bV s (bH s.ws a))
 Dw: ∀a,(s.o.aH a).isSome=true->lq (rd s.ws a)=true/\ (ag s.ws a).old=true/\bH s.ws a=a
 cp:s.copied=oK s.ws az
 rm:s.aG=true->s.y.ou-s.copied<=s.y.words-s.y.cu
 nm:s.aG=false->az=[]
 sc:s.aG=true->s.y.cf<=s.scan/\ (s.scan=s.y.cf+s.y.cu∨s.scan∈cur)
 rl:2*(s.row.length:Int)<=s.copied
 ri: ∀b∈s.row,1<=b/\b<=1048576
def bz.marked(c:bz)(a:Int):Bool:=c.has a&&c.marks.getD ((a-c.base)/c.card).toNat false
def af.jH(s:af)(a:Int):Prop:=a∈s.r.nb.list∨s.r.nc.marked a=true
def af.dW(s:af)(a:Int):Prop:=a∈s.r.tb.list∨s.r.tc.marked a=true
def Dx(s:af)(cur az:List Int)(a r:Int):Prop:=r=0∨bV s r∨r∈cur∨(s.aG=true/\r∈az/\s.scan<=a)
def Dy(s:af)(az:List Int)(r:Int):Prop:=r=0∨bV s r∨r∈az
def JD(s:af)(cur az:List Int)(E:Int->Prop)(a r:Int):Prop:=r=0∨bV s r∨(r∈cur/\ (E a∨(ag s.ws a).aY=true∨a∈s.row))∨(s.aG=true/\r∈az/\ (E a∨a∈s.row∨((ag s.ws a).aY=true/\s.dW a)))
structure Refs(s:af)(cur az:List Int)(E F:Int->Prop):Prop where
 rC: ∀a∈cur,∀k:Int,0<=k->k<(ag s.ws a).ptrs->Dx s cur az a (aQ s.ws a k)
 rO: ∀a∈az,∀k:Int,0<=k->k<(ag s.ws a).ptrs->Dy s az (aQ s.ws a k)
 rM: ∀a,(s.o.aH a).isSome=true-> ∀k:Int,0<=k->k<(ag s.ws a).ptrs->JD s cur az E a (aQ s.ws a k)
 nt: ∀a,(s.o.aH a).isSome=true->(ag s.ws a).aY=true->s.jH a∨s.dW a∨F a
 tn:s.aG=false->s.r.left=0
structure xZ(s:af):Prop where
 base:s.r.base=1+2*s.C.aU
 ws:s.r.words=s.C.pages*s.C.page
 size:s.r.size=s.C.card
 most:s.r.most=s.C.buffer
 nc:s.r.nc.base=1+2*s.C.aU/\s.r.nc.words=s.C.pages*s.C.page/\s.r.nc.card=s.C.card/\ (s.r.nc.marks.length:Int)=bz.many (s.C.pages*s.C.page) s.C.card
 tc:s.r.tc.base=1+2*s.C.aU/\s.r.tc.words=s.C.pages*s.C.page/\s.r.tc.card=s.C.card/\ (s.r.tc.marks.length:Int)=bz.many (s.C.pages*s.C.page) s.C.card
 bi: ∀x,x∈s.r.nb.list∨x∈s.r.tb.list->I64 x
 bm:s.r.nb.most=s.C.buffer/\s.r.tb.most=s.C.buffer/\ (s.r.nb.list.length:Int)<=s.C.buffer/\ (s.r.tb.list.length:Int)<=s.C.buffer
theorem xZ.same{s s':af}(h:xZ s)(hr:s'.r=s.r)(hC:s'.C=s.C):xZ s':=⟨by rw[hr,hC];exact h.base,by rw[hr,hC];exact h.ws,by rw[hr,hC];exact h.size,by rw[hr,hC];exact h.most,by rw[hr,hC];exact h.nc,by rw[hr,hC];exact h.tc,by rw[hr];exact h.bi,by rw[hr,hC];exact h.bm⟩
structure Inv(s:af)(cur az:List Int)(E F:Int->Prop):Prop where
 lay:Lay s cur az
 hds:YF s cur az
 refs:Refs s cur az E F
 rem:xZ s
theorem Fh(s:af)(n g:Int):(s.placed n g).C=s.C/\ (s.placed n g).r=s.r/\ (s.placed n g).g=s.g/\ (s.placed n g).t=s.t/\ (s.placed n g).parity=s.parity/\ (s.placed n g).phase=s.phase/\ (s.placed n g).aG=s.aG/\ (s.placed n g).scan=s.scan/\ (s.placed n g).look=s.look:=by
 unfold af.placed
 split<;>exact⟨rfl,rfl,rfl,rfl,rfl,rfl,rfl,rfl,rfl⟩
theorem kM(s:af)(a:Int):(s.moved a).C=s.C/\ (s.moved a).r=s.r/\ (s.moved a).g=s.g/\ (s.moved a).t=s.t/\ (s.moved a).parity=s.parity/\ (s.moved a).phase=s.phase/\ (s.moved a).aG=s.aG/\ (s.moved a).scan=s.scan/\ (s.moved a).look=s.look/\
  (s.moved a).copied=wrap64 (s.copied+(ag s.ws a).words)/\ (s.moved a).row=(if s.lD a then s.row++[s.kD a]else s.row):=by
 obtain⟨h1,h2,h3,h4,h5,h6,h7,h8,h9⟩:=Fh s (ag s.ws a).words (s.oW a)
 exact⟨h1,h2,h3,h4,h5,h6,h7,h8,h9,rfl,rfl⟩
theorem vz{s:af}{cur az:List Int}{E F:Int->Prop}(I:Inv s cur az E F)(hmv:s.aG=true){a:Int}(ha:a∈az)(hw:bH s.ws a=a):
  ∃cur',xY s cur az a (s.moved a) cur' (s.kD a)/\Inv (s.moved a) cur' az E F/\ (∀b∈cur,b∈cur')/\ (s.kD a∈cur'∨((s.moved a).o.aH (s.kD a)).isSome=true):=by
 obtain⟨l,H,R,RO⟩:=I
 obtain⟨n1,n2,n3,n4,n5,n6,n7,n8,n9,n10⟩:=l.nums
 have YG:=Bz l.ro ha hw
 have hcp:=H.cp
 have hrm:=H.rm hmv
 have hyw:=l.yw
 have hgl:=rP l.ro
 obtain⟨cur',M⟩:=PS l H.par ha (by unfold aJ.room;omega)
 obtain⟨o1,o2,o3,o4,o5,o6,o7,o8,o9,RP,KX⟩:=kM s a
 have GV:gQ s cur az a:= .inr (.inl ha)
 have hta:s.kD a≠a:=fun e=>M.new (by rw[e];exact GV)
 have hC: ∀b,bV (s.moved a) b↔bV s b:=fun b=>by unfold bV;rw[o1,M.wl]
 have hcf:(s.moved a).y.cf=s.y.cf:=by rw[M.y.1];rfl
 have hof:(s.moved a).y.of=s.y.of:=by rw[M.y.1];rfl
 have pz: ∀b,b∈cur'↔b∈cur∨(s.lD a=false/\b=s.kD a):=by
  intro b
  rw[M.PR]
  cases hO:s.lD a<;>simp
 have hsz: ∀b,(s.o.aH b).isSome=true->(s.moved a).o.aH b=s.o.aH b:=by
  intro b hb
  refine M.size b (.inl ?_)
  intro e
  exact M.new (.inr (.inr (e▸hb)))
 have hsz2: ∀b,((s.moved a).o.aH b).isSome=true->(s.o.aH b).isSome=true∨(s.lD a=true/\b=s.kD a):=by
  intro b hb
  by_cases e:b=s.kD a
  ·cases hO:s.lD a
   ·rw[M.size b (.inr hO)]at hb
    exact .inl hb
   ·exact .inr ⟨rfl,e⟩
  ·rw[M.size b (.inl e)]at hb
   exact .inl hb
 have hno: ∀b,(s.o.aH b).isSome=true->b≠a:=by
  intro b hb e
  have h1:=l.qp hb
  have h2:=l.oI ha
  have:=(aA s.ws a).1
  omega
 have hnc: ∀b,b∈cur->b≠a:=by
  intro b hb e
  have h1:=l.lT hb
  have h2:=l.oI ha
  have:=(aA s.ws a).1
  rw[e]at h1
  omega
 have sm: ∀b,gQ s cur az b->b≠a->rd (s.moved a).ws b=rd s.ws b/\ag (s.moved a).ws b=ag s.ws b/\bH (s.moved a).ws b=bH s.ws b/\ ∀k:Int,0<=k->k<(ag s.ws b).ptrs->aQ (s.moved a).ws b k=aQ s.ws b k:=by
  intro b hb hba
  have S:=M.rest b hb hba
  obtain⟨p1,p2,p3,p4⟩:=l.pos hb
  obtain⟨b1,b2,b3,b4,b5⟩:=aA s.ws b
  exact⟨S b (by omega) (by omega),S.head (by omega),S.way (by omega) (by omega) p3,fun k k0 k1=>S.ref (by omega) p3 k0 (by omega) (by omega)⟩
 obtain⟨pa1,YD,pa3,pa4⟩:=l.pos GV
 obtain⟨b1,b2,b3,b4,b5⟩:=aA s.ws a
 have YH: ∀k:Int,0<=k->k<(ag s.ws a).ptrs->aQ (s.moved a).ws a k=aQ s.ws a k:=by
  intro k k0 k1
  rw[dR (by omega) pa3 k0 (by omega),dR (by omega) pa3 k0 (by omega),M.YC k k0 (by omega)]
 have RQ: ∀k:Int,0<=k->k<(ag s.ws a).ptrs->aQ (s.moved a).ws (s.kD a) k=aQ s.ws a k:=by
  intro k k0 k1
  have:=M.pos
  rw[dR (by omega) M.pos.2 k0 (by omega),dR (by omega) pa3 k0 (by omega),M.Nv k k0 (by omega)]
 obtain⟨hg,hwx,hsx,hpx,hox,hnx⟩:=yP H.par a
 obtain⟨hOa,YI,Vl,_⟩:=H.Fg a ha
 have hgl0:0<=s.copied:=by rw[hcp];exact hgl.1
 have Vm:(s.moved a).copied=s.copied+(ag s.ws a).words:=by
  rw[RP]
  exact pq ⟨by omega,by omega⟩
 have VH:s.y.cu<=(s.moved a).y.cu:=by
  rw[M.y.2.2]
  split<;>omega
 refine⟨cur',M,⟨M.lay, ?_, ?_,RO.same o2 o1⟩, ?_, ?_⟩
 ·refine⟨by rw[o5];exact H.par, ?_, ?_, ?_, ?_, ?_, ?_, ?_, ?_, ?_⟩
  ·intro b hb
   rcases(pz b).1 hb with hb|⟨hO,rfl⟩
   ·obtain⟨q1,q2,q3,_⟩:=sm b (.inl hb) (hnc b hb)
    rw[q1,q2,q3]
    exact H.Dv b hb
   ·rw[M.JC,hox,hnx,hO]
    exact⟨M.okT,rfl,Vl,M.WC⟩
  ·intro b hb
   by_cases e:b=a
   ·subst e
    rw[M.rdA,M.hdA,M.RJ]
    refine⟨hOa,YI,Vl, .inr ?_⟩
    cases hO:s.lD b
    ·exact .inl ((pz _).2 (.inr ⟨hO,rfl⟩))
    ·exact .inr ((hC _).2 (M.old hO).2)
   ·obtain⟨q1,q2,q3,_⟩:=sm b (.inr (.inl hb)) e
    obtain⟨r1,r2,r3,r4⟩:=H.Fg b hb
    rw[q1,q2,q3]
    refine⟨r1,r2,r3, ?_⟩
    rcases r4 with r4|r4|r4
    ·exact .inl r4
    ·exact .inr (.inl ((pz _).2 (.inl r4)))
    ·exact .inr (.inr ((hC _).2 r4))
  ·intro b hb
   rcases hsz2 b hb with hb|⟨hO,rfl⟩
   ·obtain⟨q1,q2,q3,_⟩:=sm b (.inr (.inr hb)) (hno b hb)
    rw[q1,q2,q3]
    exact H.Dw b hb
   ·rw[M.JC,hox,hO]
    exact⟨M.okT,rfl,M.WC⟩
  ·rw[Vm,hcp]
   refine(Eb hta M.RJ (by rw[M.hdA]) hw l.ro.nodup ha ?_).symm
   intro b hb hba
   obtain⟨q1,q2,q3,_⟩:=sm b (.inr (.inl hb)) hba
   exact⟨q3,by rw[q2]⟩
  ·intro _
   have hr:=hrm
   rw[M.y.2.1,Vm,M.y.2.2]
   have e1:(s.moved a).y.words=s.y.words:=by rw[M.y.1]
   rw[e1]
   split<;>omega
  ·intro h
   rw[o7,hmv]at h
   cases h
  ·intro _
   obtain⟨c1,c2⟩:=H.sc hmv
   rw[o8,hcf]
   refine⟨c1, ?_⟩
   rcases c2 with c2|c2
   ·cases hO:s.lD a
    ·right
     rw[c2]
     exact(pz _).2 (.inr ⟨hO,(M.yT hO).symm⟩)
    ·left
     rw[M.y.2.2,hO]
     simpa using c2
   ·exact .inr ((pz _).2 (.inl c2))
  ·rw[Vm,KX]
   have:=H.rl
   split
   ·simp only[List.length_append,List.length_cons,List.length_nil]
    omega
   ·omega
  ·intro b hb
   rw[KX]at hb
   split at hb
   ·rcases List.mem_append.1 hb with hb|hb
    ·exact H.ri b hb
    ·rw[List.mem_singleton.1 hb]
     exact M.pos
   ·exact H.ri b hb
 ·have hrC: ∀b r,Dx s cur az b r->Dx (s.moved a) cur' az b r:=by
   intro b r h
   rcases h with h|h|h|⟨h1,h2,h3⟩
   ·exact .inl h
   ·exact .inr (.inl ((hC r).2 h))
   ·exact .inr (.inr (.inl ((pz r).2 (.inl h))))
   ·exact .inr (.inr (.inr ⟨by rw[o7];exact h1,h2,by rw[o8];exact h3⟩))
  have hrO: ∀r,Dy s az r->Dy (s.moved a) az r:=by
   intro r h
   rcases h with h|h|h
   ·exact .inl h
   ·exact .inr (.inl ((hC r).2 h))
   ·exact .inr (.inr h)
  have hrow: ∀b,b∈s.row->b∈(s.moved a).row:=by
   intro b hb
   rw[KX]
   split
   ·exact List.mem_append_left _ hb
   ·exact hb
  have Ec: ∀b,(s.moved a).dW b↔s.dW b:=fun b=>by unfold af.dW;rw[o2]
  have RS: ∀b,(s.moved a).jH b↔s.jH b:=fun b=>by unfold af.jH;rw[o2]
  refine⟨?_, ?_, ?_, ?_, ?_⟩
  ·intro b hb k k0 k1
   rcases(pz b).1 hb with hb|⟨hO,rfl⟩
   ·obtain⟨q1,q2,q3,q4⟩:=sm b (.inl hb) (hnc b hb)
    rw[q2]at k1
    rw[q4 k k0 k1]
    exact hrC b _ (R.rC b hb k k0 k1)
   ·rw[M.JC,hpx]at k1
    rw[RQ k k0 k1]
    rcases R.rO a ha k k0 k1 with h|h|h
    ·exact .inl h
    ·exact .inr (.inl ((hC _).2 h))
    ·refine .inr (.inr (.inr ⟨by rw[o7];exact hmv,h, ?_⟩))
     rw[o8,M.yT hO]
     obtain⟨c1,c2⟩:=H.sc hmv
     rcases c2 with c2|c2
     ·omega
     ·have:=l.lT c2
      have:=(aA s.ws s.scan).1
      omega
  ·intro b hb k k0 k1
   by_cases e:b=a
   ·subst e
    rw[M.hdA]at k1
    rw[YH k k0 k1]
    exact hrO _ (R.rO b hb k k0 k1)
   ·obtain⟨q1,q2,q3,q4⟩:=sm b (.inr (.inl hb)) e
    rw[q2]at k1
    rw[q4 k k0 k1]
    exact hrO _ (R.rO b hb k k0 k1)
  ·intro b hb k k0 k1
   rcases hsz2 b hb with hb|⟨hO,rfl⟩
   ·obtain⟨q1,q2,q3,q4⟩:=sm b (.inr (.inr hb)) (hno b hb)
    rw[q2]at k1
    rw[q4 k k0 k1]
    unfold JD
    rw[q2]
    rcases R.rM b hb k k0 k1 with h|h|⟨h1,h2⟩|⟨h1,h2,h3⟩
    ·exact .inl h
    ·exact .inr (.inl ((hC _).2 h))
    ·refine .inr (.inr (.inl ⟨(pz _).2 (.inl h1), ?_⟩))
     rcases h2 with h2|h2|h2
     ·exact .inl h2
     ·exact .inr (.inl h2)
     ·exact .inr (.inr (hrow _ h2))
    ·refine .inr (.inr (.inr ⟨by rw[o7];exact h1,h2, ?_⟩))
     rcases h3 with h3|h3|⟨h3,h4⟩
     ·exact .inl h3
     ·exact .inr (.inl (hrow _ h3))
     ·exact .inr (.inr ⟨h3,(Ec b).2 h4⟩)
   ·rw[M.JC,hpx]at k1
    rw[RQ k k0 k1]
    rcases R.rO a ha k k0 k1 with h|h|h
    ·exact .inl h
    ·exact .inr (.inl ((hC _).2 h))
    ·refine .inr (.inr (.inr ⟨by rw[o7];exact hmv,h, .inr (.inl ?_)⟩))
     rw[KX,if_pos hO]
     simp
  ·intro b hb hnb
   rcases hsz2 b hb with hb|⟨hO,rfl⟩
   ·obtain⟨q1,q2,q3,q4⟩:=sm b (.inr (.inr hb)) (hno b hb)
    rw[q2]at hnb
    rcases R.nt b hb hnb with h|h
    ·exact .inl ((RS b).2 h)
    ·exact .inr (h.elim (fun h=> .inl ((Ec b).2 h)) .inr)
   ·rw[M.JC,hnx,Vl]at hnb
    cases hnb
  ·intro h
   rw[o7,hmv]at h
   cases h
 ·intro b hb
  rw[M.PR]
  split
  ·exact hb
  ·exact List.mem_append_left _ hb
 ·cases hO:s.lD a
  ·left
   rw[M.PR,hO]
   simp
  ·exact .inr (M.old hO).1
end Go.Proofs.YtibemcgdmembeaaGreat
namespace Go.Proofs.YtibemcgdmembeaaGreat
open Go.RowKit
def b_(s:af)(cur az:List Int)(r:Int):Prop:=r=0∨bV s r∨r∈cur∨r∈az
def bT(s:af)(cur:List Int)(r:Int):Prop:=r=0∨bV s r∨r∈cur
structure v_(s:af)(cur az:List Int)(r:Int)(s':af)(cur':List Int)(T:Int):Prop where
 mono: ∀b∈cur,b∈cur'
 res:bT s' cur' T
 same: ∀b,b∈cur∨(s.o.aH b).isSome=true->Same s.ws s'.ws b (ag s.ws b).words
 C:s'.C=s.C
 r:s'.r=s.r
 t:s'.t=s.t
 parity:s'.parity=s.parity
 phase:s'.phase=s.phase
 aG:s'.aG=s.aG
 scan:s'.scan=s.scan
 wl:s'.ws.length=s.ws.length
 old: ∀b,(s.o.aH b).isSome=true->s'.o.aH b=s.o.aH b
 row: ∀b∈s.row,b∈s'.row
theorem Inv.mv{s:af}{cur az:List Int}{E F:Int->Prop}(I:Inv s cur az E F):s.Mv:=by
 obtain⟨l,H,R,_⟩:=I
 obtain⟨n1,n2,n3,n4,n5,n6,n7,n8,n9,n10⟩:=l.nums
 have hgl:=rP l.ro
 have:=H.cp
 have:=H.rl
 exact⟨l.ov.w16,H.par,by omega⟩
theorem Lay.not_zero{s:af}{cur az:List Int}(l:Lay s cur az){b:Int}(h:gQ s cur az b):b≠0:=by
 have:=(l.pos h).1
 omega
theorem Lay.iw{s:af}{cur az:List Int}(l:Lay s cur az){r:Int}(h:r∈az):s.now r=bH s.ws r:=by
 rw[af.now,if_pos ⟨l.not_zero (.inr (.inl h)),l.gz h⟩]
theorem Inv.Vo{s:af}{cur az:List Int}{E F:Int->Prop}(I:Inv s cur az E F)(hmv:s.aG=true){r:Int}(hr:b_ s cur az r):s.EZ r:=by
 refine⟨I.mv,fun hf hn=> ?_⟩
 have hro:r∈az:=by
  rcases hr with h|h|h|h
  ·rw[I.lay.jl (.inr h)]at hf;cases hf
  ·rw[I.lay.jl (.inl h)]at hf;cases hf
  ·rw[I.lay.fK (.inl h)]at hf;cases hf
  ·exact h
 rw[I.lay.iw hro]at hn
 obtain⟨cur',M,_⟩:=vz I hmv hro hn
 have:=M.pos
 exact⟨by omega,by omega⟩
theorem GX{s:af}{cur az:List Int}{E F:Int->Prop}(I:Inv s cur az E F)(hmv:s.aG=true){r:Int}(hr:b_ s cur az r):
  ∃cur',Inv (s.move r) cur' az E F/\v_ s cur az r (s.move r) cur' (s.dA r):=by
 have stay:r=0∨s.y.dI r=false->bT s cur r-> ∃cur',Inv (s.move r) cur' az E F/\v_ s cur az r (s.move r) cur' (s.dA r):=by
  intro h hn
  rw[af.move,af.dA,if_pos h,if_pos h]
  exact⟨cur,I,fun _ hb=>hb,hn,fun _ _ _ _ _=>rfl,rfl,rfl,rfl,rfl,rfl,rfl,rfl,rfl,fun _ _=>rfl,fun _ hb=>hb⟩
 rcases hr with h|h|h|h
 ·exact stay (.inl h) (.inl h)
 ·exact stay (.inr (I.lay.jl (.inl h))) (.inr (.inl h))
 ·exact stay (.inr (I.lay.fK (.inl h))) (.inr (.inr h))
 ·have h0: ¬(r=0∨s.y.dI r=false):=by
   rintro(h1|h1)
   ·exact I.lay.not_zero (.inr (.inl h)) h1
   ·rw[I.lay.gz h]at h1;cases h1
  rw[af.move,af.dA,if_neg h0,if_neg h0,I.lay.iw h]
  by_cases hw:bH s.ws r=r
  ·rw[if_pos hw,if_pos hw]
   obtain⟨cur',M,I',hm,hT⟩:=vz I hmv h hw
   obtain⟨o1,o2,o3,o4,o5,o6,o7,o8,o9,RP,KX⟩:=kM s r
   refine⟨cur',I',hm, ?_, ?_,o1,o2,o4,o5,o6,o7,o8,M.wl, ?_, ?_⟩
   ·rcases hT with hT|hT
    ·exact .inr (.inr hT)
    ·exact .inr (.inl (I'.lay.kC hT))
   ·intro b hb
    have hbr:b≠r:=by
     intro e
     have h1:=I.lay.oI h
     have h3:=(aA s.ws r).1
     obtain⟨n1,n2,n3,n4,n5,n6,n7,n8,n9,n10⟩:=I.lay.nums
     rcases hb with hb|hb
     ·have:=I.lay.lT hb
      rw[e]at this
      omega
     ·have:=I.lay.qp hb
      omega
    exact M.rest b (hb.elim .inl (fun h=> .inr (.inr h))) hbr
   ·intro b hb
    refine M.size b (.inl ?_)
    intro e
    exact M.new (.inr (.inr (e▸hb)))
   ·intro b hb
    rw[KX]
    split
    ·exact List.mem_append_left _ hb
    ·exact hb
  ·rw[if_neg hw,if_neg hw]
   refine⟨cur,I,fun _ hb=>hb, ?_,fun _ _ _ _ _=>rfl,rfl,rfl,rfl,rfl,rfl,rfl,rfl,rfl,fun _ _=>rfl,fun _ hb=>hb⟩
   rcases(I.hds.Fg r h).2.2.2 with h1|h1|h1
   ·exact absurd h1 hw
   ·exact .inr (.inr h1)
   ·exact .inr (.inl h1)
theorem x_{s:af}{cur az:List Int}(l:Lay s cur az){r:Int}(h:bT s cur r):0<=r/\r<=1048576:=by
 rcases h with h|h|h
 ·omega
 ·obtain⟨n1,n2,n3,n4,n5,n6,n7,n8,n9,n10⟩:=l.nums
  have h1:=h.1
  have h2:=h.2
  omega
 ·have:=l.pos (.inl h)
  omega
theorem kN{s:af}{cur az:List Int}{E F:Int->Prop}(I:Inv s cur az E F){a k T:Int}(ha:a∈cur∨((s.o.aH a).isSome=true/\E a))(k0:0<=k)(k1:k<(ag s.ws a).ptrs)(hT:bT s cur T):
  Inv {s with ws:=iQ s.ws (place a k) (u64 T)} cur az E F/\aQ (iQ s.ws (place a k) (u64 T)) a k=T/\
  (∀b,gQ s cur az b->b≠a->Same s.ws (iQ s.ws (place a k) (u64 T)) b (ag s.ws b).words)/\ag (iQ s.ws (place a k) (u64 T)) a=ag s.ws a/\bH (iQ s.ws (place a k) (u64 T)) a=bH s.ws a/\
  (∀j,0<=j->j<64->j≠k->rd (iQ s.ws (place a k) (u64 T)) (a+2+j)=rd s.ws (a+2+j)):=by
 obtain⟨l,H,R,RO⟩:=I
 have hI:gQ s cur az a:=ha.elim .inl (fun h=> .inr (.inr h.1))
 obtain⟨p1,p2,p3,p4⟩:=l.pos hI
 obtain⟨b1,b2,b3,b4,b5⟩:=aA s.ws a
 obtain⟨t1,t2⟩:=x_ l hT
 have hpl:place a k=a+2+k:=oH (by omega) p3 k0 (by omega)
 rw[hpl,Ff t1 (by omega)]
 have hrd:=fun j=>vZ (ws:=s.ws) (i:=a+2+k) (by omega) (by omega) T j
 generalize hws:iQ s.ws (a+2+k) T=ws' at*
 have hlen:ws'.length=s.ws.length:=by rw[<-hws,iC]
 have rdA:rd ws' a=rd s.ws a:=by rw[hrd,if_neg (by omega)]
 have hdA:ag ws' a=ag s.ws a:=by rw[dX,dX,rdA]
 have wyA:bH ws' a=bH s.ws a:=by rw[f_ (by omega) p3,f_ (by omega) p3,hrd,if_neg (by omega)]
 have VO:aQ ws' a k=T:=by
  rw[dR (by omega) p3 k0 (by omega),hrd,if_pos rfl]
  exact pq ⟨by omega,by omega⟩
 have WE: ∀j,0<=j->j<64->j≠k->rd ws' (a+2+j)=rd s.ws (a+2+j):=by
  intro j _ _ hj
  rw[hrd,if_neg (by omega)]
 have rest: ∀b,gQ s cur az b->b≠a->Same s.ws ws' b (ag s.ws b).words:=by
  intro b hb hba p q1 q2
  have:=l.apart hb hI hba
  rw[hrd,if_neg (by omega)]
 have sm: ∀b,gQ s cur az b->rd ws' b=rd s.ws b/\ag ws' b=ag s.ws b/\bH ws' b=bH s.ws b/\ ∀j:Int,0<=j->j<(ag s.ws b).ptrs->(b≠a∨j≠k)->aQ ws' b j=aQ s.ws b j:=by
  intro b hb
  by_cases e:b=a
  ·subst e
   refine⟨rdA,hdA,wyA,fun j j0 j1 hj=> ?_⟩
   rcases hj with hj|hj
   ·exact absurd rfl hj
   ·rw[dR (by omega) p3 j0 (by omega),dR (by omega) p3 j0 (by omega),WE j j0 (by omega) hj]
  ·have S:=rest b hb e
   obtain⟨q1,q2,q3,q4⟩:=l.pos hb
   obtain⟨c1,c2,c3,c4,c5⟩:=aA s.ws b
   exact⟨S b (by omega) (by omega),S.head (by omega),S.way (by omega) (by omega) q3,fun j j0 j1 _=>S.ref (by omega) q3 j0 (by omega) (by omega)⟩
 have hC: ∀b,bV {s with ws:=ws'} b↔bV s b:=fun b=>by unfold bV;simp only[hlen]
 refine⟨⟨⟨l.cf,l.ov,l.ob,l.ow,l.ol,l.f0,l.f1,l.yw,l.u0,l.u1,by rw[hlen];exact l.wl, ?_, ?_, ?_⟩, ?_, ?_,RO.same rfl rfl⟩,VO,rest,hdA,wyA,WE⟩
 ·exact l.rc.frame fun b hb=>by rw[(sm b (.inl hb)).2.1]
 ·exact l.ro.frame fun b hb=>by rw[(sm b (.inr (.inl hb))).2.1]
 ·intro b z hz
  show z=cellOf s.o.words (ag ws' b).words
  rw[(sm b (.inr (.inr (by rw[hz];rfl)))).2.1]
  exact l.fit b z hz
 ·refine⟨H.par, ?_, ?_, ?_, ?_,H.rm,H.nm,H.sc,H.rl,H.ri⟩
  ·intro b hb
   obtain⟨q1,q2,q3,_⟩:=sm b (.inl hb)
   show lq (rd ws' b)=true/\ (ag ws' b).old=false/\ (ag ws' b).aY=false/\bH ws' b=b
   rw[q1,q2,q3]
   exact H.Dv b hb
  ·intro b hb
   obtain⟨q1,q2,q3,_⟩:=sm b (.inr (.inl hb))
   show lq (rd ws' b)=true/\ (ag ws' b).old=false/\ (ag ws' b).aY=false/\ (bH ws' b=b∨bH ws' b∈cur∨(1+2*s.C.aU<=bH ws' b/\bH ws' b<ws'.length))
   rw[q1,q2,q3,hlen]
   exact H.Fg b hb
  ·intro b hb
   obtain⟨q1,q2,q3,_⟩:=sm b (.inr (.inr hb))
   show lq (rd ws' b)=true/\ (ag ws' b).old=true/\bH ws' b=b
   rw[q1,q2,q3]
   exact H.Dw b hb
  ·show s.copied=oK ws' az
   rw[H.cp]
   exact(mg fun b hb=>by obtain⟨q1,q2,q3,_⟩:=sm b (.inr (.inl hb));exact⟨q3,by rw[q2]⟩).symm
 ·have hno: ∀b,b∈az->b≠a:=by
   intro b hb e
   have h1:=l.oI hb
   have h2:=(aA s.ws b).1
   obtain⟨n1,n2,n3,n4,n5,n6,n7,n8,n9,n10⟩:=l.nums
   rcases ha with ha|⟨ha,_⟩
   ·have:=l.lT ha
    rw[e]at h1 h2
    omega
   ·have:=l.qp ha
    omega
  refine⟨?_, ?_, ?_, ?_,R.tn⟩
  ·intro b hb j j0 j1
   obtain⟨q1,q2,q3,q4⟩:=sm b (.inl hb)
   have j1':j<(ag ws' b).ptrs:=j1
   rw[q2]at j1'
   show Dx {s with ws:=ws'} cur az b (aQ ws' b j)
   by_cases hbk:b=a/\j=k
   ·obtain⟨rfl,rfl⟩:=hbk
    rw[VO]
    rcases hT with h|h|h
    ·exact .inl h
    ·exact .inr (.inl ((hC _).2 h))
    ·exact .inr (.inr (.inl h))
   ·rw[q4 j j0 j1' (by
     by_cases e:b=a
     ·exact .inr (fun h=>hbk ⟨e,h⟩)
     ·exact .inl e)]
    rcases R.rC b hb j j0 j1' with h|h|h|h
    ·exact .inl h
    ·exact .inr (.inl ((hC _).2 h))
    ·exact .inr (.inr (.inl h))
    ·exact .inr (.inr (.inr h))
  ·intro b hb j j0 j1
   obtain⟨q1,q2,q3,q4⟩:=sm b (.inr (.inl hb))
   have j1':j<(ag ws' b).ptrs:=j1
   rw[q2]at j1'
   show Dy {s with ws:=ws'} az (aQ ws' b j)
   rw[q4 j j0 j1' (.inl (hno b hb))]
   rcases R.rO b hb j j0 j1' with h|h|h
   ·exact .inl h
   ·exact .inr (.inl ((hC _).2 h))
   ·exact .inr (.inr h)
  ·intro b hb j j0 j1
   obtain⟨q1,q2,q3,q4⟩:=sm b (.inr (.inr hb))
   have j1':j<(ag ws' b).ptrs:=j1
   rw[q2]at j1'
   show JD {s with ws:=ws'} cur az E b (aQ ws' b j)
   unfold JD
   show aQ ws' b j=0∨bV {s with ws:=ws'} (aQ ws' b j)∨(aQ ws' b j∈cur/\ (E b∨(ag ws' b).aY=true∨b∈s.row))∨(s.aG=true/\aQ ws' b j∈az/\ (E b∨b∈s.row∨((ag ws' b).aY=true/\s.dW b)))
   rw[hC,q2]
   by_cases hbk:b=a/\j=k
   ·obtain⟨rfl,rfl⟩:=hbk
    rw[VO]
    have hbe:E b:=by
     rcases ha with ha|ha
     ·exfalso
      have h1:=l.lT ha
      have h2:=l.qp hb
      obtain⟨n1,n2,n3,n4,n5,n6,n7,n8,n9,n10⟩:=l.nums
      omega
     ·exact ha.2
    rcases hT with h|h|h
    ·exact .inl h
    ·exact .inr (.inl h)
    ·exact .inr (.inr (.inl ⟨h, .inl hbe⟩))
   ·rw[q4 j j0 j1' (by
     by_cases e:b=a
     ·exact .inr (fun h=>hbk ⟨e,h⟩)
     ·exact .inl e)]
    exact R.rM b hb j j0 j1'
  ·intro b hb hnb
   obtain⟨q1,q2,q3,q4⟩:=sm b (.inr (.inr hb))
   have hnb':(ag ws' b).aY=true:=hnb
   rw[q2]at hnb'
   exact R.nt b hb hnb'
end Go.Proofs.YtibemcgdmembeaaGreat
namespace Go.Proofs.YtibemcgdmembeaaGreat
open Go.RowKit
section
variable{s:af}{cur az:List Int}{E F:Int->Prop}
theorem Lay.Ak(l:Lay s cur az){r:Int}(h:r∈cur): ¬(r=0∨bV s r):=by
 rintro(h0|h0)
 ·exact l.not_zero (.inl h) h0
 ·have h1:=l.lT h
  have h2:=(aA s.ws r).1
  have h3:=h0.1
  obtain⟨n1,n2,n3,n4,n5,n6,n7,n8,n9,n10⟩:=l.nums
  omega
theorem bT.qw{r:Int}(h:bT s cur r):b_ s cur az r:=by
 rcases h with h|h|h
 ·exact .inl h
 ·exact .inr (.inl h)
 ·exact .inr (.inr (.inl h))
theorem bT.isIn(l:Lay s cur az){r:Int}(h:bT s cur r):s.y.isIn r=true↔r∈cur:=by
 constructor
 ·intro hi
  rcases h with h|h|h
  ·rw[l.PO (.inr (.inr h))]at hi;cases hi
  ·rw[l.PO (.inr (.inl h))]at hi;cases hi
  ·exact h
 ·exact l.Vj
theorem bT.mono{s':af}{cur':List Int}(h1:s'.C=s.C)(h2:s'.ws.length=s.ws.length)(hm: ∀b∈cur,b∈cur'){r:Int}(h:bT s cur r):bT s' cur' r:=by
 rcases h with h|h|h
 ·exact .inl h
 ·exact .inr (.inl (by unfold bV at h⊢;rw[h1,h2];exact h))
 ·exact .inr (.inr (hm r h))
def jI(s:af)(cur:List Int)(E:Int->Prop)(a:Int):Prop:=a∈cur∨((s.o.aH a).isSome=true/\E a)
theorem jI.kE{a:Int}(h:jI s cur E a):a∈cur∨(s.o.aH a).isSome=true:=h.elim .inl (fun h=> .inr h.1)
theorem Inv.qw(I:Inv s cur az E F){a:Int}(ha:jI s cur E a){k:Int}(k0:0<=k)(k1:k<(ag s.ws a).ptrs):b_ s cur az (aQ s.ws a k):=by
 rcases ha with ha|⟨ha,_⟩
 ·rcases I.refs.rC a ha k k0 k1 with h|h|h|⟨_,h,_⟩
  ·exact .inl h
  ·exact .inr (.inl h)
  ·exact .inr (.inr (.inl h))
  ·exact .inr (.inr (.inr h))
 ·rcases I.refs.rM a ha k k0 k1 with h|h|⟨h,_⟩|⟨_,h,_⟩
  ·exact .inl h
  ·exact .inr (.inl h)
  ·exact .inr (.inr (.inl h))
  ·exact .inr (.inr (.inr h))
end
structure JE(s:af)(cur az:List Int)(E F:Int->Prop)(a:Int)(j:Nat)(s':af)(cur':List Int)(y:Bool):Prop where
 inv:Inv s' cur' az E F
 mono: ∀b∈cur,b∈cur'
 C:s'.C=s.C
 r:s'.r=s.r
 t:s'.t=s.t
 parity:s'.parity=s.parity
 phase:s'.phase=s.phase
 aG:s'.aG=s.aG
 scan:s'.scan=s.scan
 wl:s'.ws.length=s.ws.length
 old: ∀b,(s.o.aH b).isSome=true->s'.o.aH b=s.o.aH b
 row: ∀b∈s.row,b∈s'.row
 hd:rd s'.ws a=rd s.ws a
 same: ∀b,b∈cur∨(s.o.aH b).isSome=true->b≠a->Same s.ws s'.ws b (ag s.ws b).words
 done: ∀k:Nat,k<j->bT s' cur' (aQ s'.ws a k)
 left: ∀k:Int,j<=k->k<(ag s.ws a).ptrs->aQ s'.ws a k=aQ s.ws a k
 iD: ∀k:Int,(ag s.ws a).ptrs<=k->k<(ag s.ws a).size->rd s'.ws (a+2+k)=rd s.ws (a+2+k)
 yes:y=true↔ ∃k:Nat,k<j/\aQ s'.ws a k∈cur'
theorem JE.head{s:af}{cur az:List Int}{E F:Int->Prop}{a:Int}{j:Nat}{s':af}{cur':List Int}{y:Bool}(h:JE s cur az E F a j s' cur' y):ag s'.ws a=ag s.ws a:=by
 rw[dX,dX,h.hd]
theorem JF{s:af}{cur az:List Int}{E F:Int->Prop}(I:Inv s cur az E F)(hmv:s.aG=true){a:Int}(ha:jI s cur E a){k:Nat}(hk:(k:Int)<(ag s.ws a).ptrs):
  ∃cur',Inv (s.dV a k) cur' az E F/\v_ s cur az (aQ s.ws a k) (s.move (aQ s.ws a k)) cur' (s.dA (aQ s.ws a k))/\
  (s.dV a k).C=s.C/\ (s.dV a k).r=s.r/\ (s.dV a k).t=s.t/\ (s.dV a k).parity=s.parity/\ (s.dV a k).phase=s.phase/\ (s.dV a k).aG=s.aG/\ (s.dV a k).scan=s.scan/\ (s.dV a k).ws.length=s.ws.length/\
  (∀b,(s.o.aH b).isSome=true->(s.dV a k).o.aH b=s.o.aH b)/\ (∀b∈s.row,b∈(s.dV a k).row)/\rd (s.dV a k).ws a=rd s.ws a/\
  (∀b,b∈cur∨(s.o.aH b).isSome=true->b≠a->Same s.ws (s.dV a k).ws b (ag s.ws b).words)/\
  aQ (s.dV a k).ws a k=s.dA (aQ s.ws a k)/\ (∀j:Int,0<=j->j<(ag s.ws a).size->j≠k->rd (s.dV a k).ws (a+2+j)=rd s.ws (a+2+j))/\
  (s.dV a k).y=(s.move (aQ s.ws a k)).y:=by
 obtain⟨cur',I1,M⟩:=GX I hmv (I.qw ha (by omega) hk)
 have hI:gQ s cur az a:=ha.elim .inl (fun h=> .inr (.inr h.1))
 obtain⟨p1,p2,p3,p4⟩:=I.lay.pos hI
 obtain⟨b1,b2,b3,b4,b5⟩:=aA s.ws a
 have SA:=M.same a ha.kE
 have hdA:ag (s.move (aQ s.ws a k)).ws a=ag s.ws a:=SA.head (by omega)
 have rdA:rd (s.move (aQ s.ws a k)).ws a=rd s.ws a:=SA a (by omega) (by omega)
 have WG: ∀j:Int,0<=j->j<(ag s.ws a).size->rd (s.move (aQ s.ws a k)).ws (a+2+j)=rd s.ws (a+2+j):=fun j j0 j1=>SA _ (by omega) (by omega)
 unfold af.dV
 by_cases hq:s.dA (aQ s.ws a k)=aQ s.ws a k
 ·rw[if_pos hq]
  exact⟨cur',I1,M,M.C,M.r,M.t,M.parity,M.phase,M.aG,M.scan,M.wl,M.old,M.row,rdA,fun b hb _=>M.same b hb,(SA.ref (by omega) p3 (by omega) (by omega) (by omega)).trans hq.symm,fun j j0 j1 _=>WG j j0 j1,rfl⟩
 ·rw[if_neg hq]
  have ha1:jI (s.move (aQ s.ws a k)) cur' E a:=by
   rcases ha with h|⟨h,h2⟩
   ·exact .inl (M.mono a h)
   ·exact .inr ⟨by rw[M.old a h];exact h,h2⟩
  obtain⟨I2,r1,r2,r3,r4,r5⟩:=kN (k:=(k:Int)) I1 ha1 (by omega) (by rw[hdA];exact hk) M.res
  have hI1: ∀b,b∈cur∨(s.o.aH b).isSome=true->gQ (s.move (aQ s.ws a k)) cur' az b:=by
   intro b hb
   rcases hb with h|h
   ·exact .inl (M.mono b h)
   ·exact .inr (.inr (by rw[M.old b h];exact h))
  refine⟨cur',I2,M,M.C,M.r,M.t,M.parity,M.phase,M.aG,M.scan, ?_,M.old,M.row, ?_, ?_,r1, ?_,rfl⟩
  ·show(iQ _ _ _).length=_
   rw[iC]
   exact M.wl
  ·have e1:place a (k:Int)=a+2+k:=oH (by omega) p3 (by omega) (by omega)
   have hl:=M.wl
   show rd (iQ _ (place a k) _) a=_
   obtain⟨t1,t2⟩:=x_ I1.lay M.res
   rw[e1,Ff t1 (by omega),vZ (by omega) (by omega),if_neg (by omega)]
   exact rdA
  ·intro b hb hba p q1 q2
   have h1:=r2 b (hI1 b hb) hba p q1 (by rw[(M.same b hb).head (by have:=(aA s.ws b).1;omega)];exact q2)
   exact h1.trans (M.same b hb p q1 q2)
  ·intro j j0 j1 jk
   exact(r5 j j0 (by omega) jk).trans (WG j j0 j1)
theorem Fj{s:af}{cur az:List Int}{E F:Int->Prop}(I:Inv s cur az E F)(hmv:s.aG=true){a:Int}(ha:jI s cur E a): ∀j:Nat,(j:Int)<=(ag s.ws a).ptrs->
  ∃cur',JE s cur az E F a j (s.jb a j) cur' (s.iU a j)
 |0,_=>⟨cur,I,fun _ h=>h,rfl,rfl,rfl,rfl,rfl,rfl,rfl,rfl,fun _ _=>rfl,fun _ h=>h,rfl,fun _ _ _ _ _ _=>rfl,fun _ h=>absurd h (by omega),fun _ _ _=>rfl,fun _ _ _=>rfl,⟨fun h=>(by cases h),fun⟨k,h,_⟩=>absurd h (by omega)⟩⟩
 |j+1,hj=>by
  obtain⟨c1,R⟩:=Fj I hmv ha j (by omega)
  have ha1:jI (s.jb a j) c1 E a:=by
   rcases ha with h|⟨h,h2⟩
   ·exact .inl (R.mono a h)
   ·exact .inr ⟨by rw[R.old a h];exact h,h2⟩
  have hd:=R.head
  have hI:gQ s cur az a:=ha.elim .inl (fun h=> .inr (.inr h.1))
  obtain⟨p1,p2,p3,p4⟩:=I.lay.pos hI
  obtain⟨b1,b2,b3,b4,b5⟩:=aA s.ws a
  obtain⟨c2,I2,M,o1,o2,o3,o4,o5,o6,o7,o8,o9,RP,KX,o12,YJ,YK,o15⟩:=JF R.inv (R.aG.trans hmv) ha1 (k:=j) (by rw[hd];omega)
  rw[hd]at YK
  have hsame: ∀k:Int,0<=k->k<(ag s.ws a).ptrs->k≠j->aQ ((s.jb a j).dV a j).ws a k=aQ (s.jb a j).ws a k:=by
   intro k k0 k1 kj
   rw[dR (by omega) p3 k0 (by omega),dR (by omega) p3 k0 (by omega),YK k k0 (by omega) kj]
  have hres:bT ((s.jb a j).dV a j) c2 ((s.jb a j).dA (aQ (s.jb a j).ws a j)):=by
   refine bT.mono ?_ ?_ (fun _ h=>h) M.res
   ·rw[o1,M.C]
   ·rw[o8,M.wl]
  have hdone: ∀k:Nat,k<j+1->bT ((s.jb a j).dV a j) c2 (aQ ((s.jb a j).dV a j).ws a k):=by
   intro k hk
   by_cases e1:k=j
   ·subst e1
    rw[YJ]
    exact hres
   ·rw[hsame k (by omega) (by omega) (by omega)]
    exact bT.mono o1 o8 M.mono (R.done k (by omega))
  refine⟨c2,I2,fun b h=>M.mono b (R.mono b h),o1.trans R.C,o2.trans R.r,o3.trans R.t,o4.trans R.parity,o5.trans R.phase,o6.trans R.aG,o7.trans R.scan,o8.trans R.wl, ?_,fun b h=>RP b (R.row b h),KX.trans R.hd, ?_,hdone, ?_, ?_, ?_⟩
  ·intro b hb
   exact(o9 b (by rw[R.old b hb];exact hb)).trans (R.old b hb)
  ·intro b hb hba p q1 q2
   have S:=R.same b hb hba
   refine(o12 b (hb.elim (fun h=> .inl (R.mono b h)) (fun h=> .inr (by rw[R.old b h];exact h))) hba p q1 ?_).trans (S p q1 q2)
   rw[S.head (by have:=(aA s.ws b).1;omega)]
   exact q2
  ·intro k k0 k1
   rw[show s.jb a (j+1)=(s.jb a j).dV a j from rfl,hsame k (by omega) k1 (by omega)]
   exact R.left k (by omega) k1
  ·intro k k0 k1
   exact(YK k (by omega) k1 (by omega)).trans (R.iD k k0 k1)
  ·show(s.iU a j||(s.jb a j).GI a j)=true↔ ∃k:Nat,k<j+1/\aQ ((s.jb a j).dV a j).ws a k∈c2
   rw[Bool.or_eq_true,R.yes]
   have hin:(s.jb a j).GI a j=true↔ (s.jb a j).dA (aQ (s.jb a j).ws a j)∈c2:=hres.isIn I2.lay
   rw[hin]
   constructor
   ·rintro(⟨k,k1,k2⟩|h)
    ·refine⟨k,by omega, ?_⟩
     rw[hsame k (by omega) (by omega) (by omega)]
     exact M.mono _ k2
    ·exact⟨j,by omega,by rw[YJ];exact h⟩
   ·rintro⟨k,k1,k2⟩
    by_cases e1:k=j
    ·subst e1
     rw[YJ]at k2
     exact .inr k2
    ·refine .inl ⟨k,by omega, ?_⟩
     rw[hsame k (by omega) (by omega) (by omega)]at k2
     rcases R.done k (by omega)with h|h|h
     ·exact absurd (.inl h) (I2.lay.Ak k2)
     ·refine absurd (.inr ?_) (I2.lay.Ak k2)
      unfold bV at h⊢
      rw[o1,o8]
      exact h
     ·exact h
theorem JG{s:af}{cur az:List Int}{E F:Int->Prop}(I:Inv s cur az E F)(hmv:s.aG=true){a:Int}(ha:jI s cur E a):s.qm a:=by
 intro k hk
 unfold af.bQ at hk
 obtain⟨c1,R⟩:=Fj I hmv ha k (by omega)
 refine R.inv.Vo (R.aG.trans hmv) (cur:=c1) (az:=az) ?_
 refine R.inv.qw ?_ (by omega) (by rw[R.head];omega)
 rcases ha with h|⟨h,h2⟩
 ·exact .inl (R.mono a h)
 ·exact .inr ⟨by rw[R.old a h];exact h,h2⟩
end Go.Proofs.YtibemcgdmembeaaGreat
namespace Go.Proofs.YtibemcgdmembeaaGreat
open Go.RowKit
structure TQ(s:af)(cur az:List Int)(a:Int)(x:Hd)(ws':List Int):Prop where
 len:ws'.length=s.ws.length
 hd: ∀b,gQ s cur az b->ag ws' b=if b=a then x else ag s.ws b
 ok: ∀b,gQ s cur az b->lq (rd s.ws b)=true->lq (rd ws' b)=true
 way: ∀b,gQ s cur az b->bH ws' b=bH s.ws b
 WG: ∀b,gQ s cur az b-> ∀k:Int,0<=k->k<(ag s.ws b).size->rd ws' (b+2+k)=rd s.ws (b+2+k)
 ref: ∀b,gQ s cur az b-> ∀k:Int,0<=k->k<(ag s.ws b).ptrs->aQ ws' b k=aQ s.ws b k
theorem KY{s:af}{cur az:List Int}(l:Lay s cur az)(H:YF s cur az){a:Int}(ha:(s.o.aH a).isSome=true){x:Hd}(hg:x.Good)(hs:x.size=(ag s.ws a).size)(ho:x.old=true):
  TQ s cur az a x (iQ s.ws a x.enc)/\ (∀r',Lay {s with ws:=iQ s.ws a x.enc,r:=r'} cur az/\YF {s with ws:=iQ s.ws a x.enc,r:=r'} cur az):=by
 have hI:gQ s cur az a:= .inr (.inr ha)
 obtain⟨p1,p2,p3,p4⟩:=l.pos hI
 obtain⟨b1,b2,b3,b4,b5⟩:=aA s.ws a
 have hrd:=fun j=>vZ (ws:=s.ws) (i:=a) (by omega) (by omega) x.enc j
 generalize hws:iQ s.ws a x.enc=ws' at*
 have hlen:ws'.length=s.ws.length:=by rw[<-hws,iC]
 have hno: ∀b,b∈cur∨b∈az->b≠a:=by
  intro b hb e
  have h1:=l.kC ha
  have h2:=(aA s.ws b).1
  have h3:=h1.1
  obtain⟨n1,n2,n3,n4,n5,n6,n7,n8,n9,n10⟩:=l.nums
  rcases hb with hb|hb
  ·have:=l.lT hb;omega
  ·have:=l.oI hb;omega
 have K:TQ s cur az a x ws':=by
  refine⟨hlen, ?_, ?_, ?_, ?_, ?_⟩
  ·intro b hb
   by_cases e:b=a
   ·rw[if_pos e,e,dX,hrd,if_pos rfl,Aj hg]
   ·rw[if_neg e,dX,dX,hrd,if_neg e]
  ·intro b hb hh
   by_cases e:b=a
   ·rw[e,hrd,if_pos rfl]
    exact rJ hg
   ·rw[hrd,if_neg e]
    exact hh
  ·intro b hb
   obtain⟨q1,q2,q3,q4⟩:=l.pos hb
   obtain⟨c1,c2,c3,c4,c5⟩:=aA s.ws b
   rw[f_ (by omega) q3,f_ (by omega) q3,hrd,if_neg ?_]
   by_cases e:b=a
   ·omega
   ·have:=l.apart hb hI e
    omega
  ·intro b hb k k0 k1
   obtain⟨q1,q2,q3,q4⟩:=l.pos hb
   obtain⟨c1,c2,c3,c4,c5⟩:=aA s.ws b
   rw[hrd,if_neg ?_]
   by_cases e:b=a
   ·omega
   ·have:=l.apart hb hI e
    omega
  ·intro b hb k k0 k1
   obtain⟨q1,q2,q3,q4⟩:=l.pos hb
   obtain⟨c1,c2,c3,c4,c5⟩:=aA s.ws b
   rw[dR (by omega) q3 k0 (by omega),dR (by omega) q3 k0 (by omega),hrd,if_neg ?_]
   by_cases e:b=a
   ·omega
   ·have:=l.apart hb hI e
    omega
 have hw: ∀b,gQ s cur az b->(ag ws' b).words=(ag s.ws b).words:=by
  intro b hb
  rw[K.hd b hb]
  split
  ·rename_i e
   rw[e]
   show x.size+2=(ag s.ws a).size+2
   rw[hs]
  ·rfl
 refine⟨K,fun r'=>⟨⟨l.cf,l.ov,l.ob,l.ow,l.ol,l.f0,l.f1,l.yw,l.u0,l.u1,by rw[hlen];exact l.wl, ?_, ?_, ?_⟩,⟨H.par, ?_, ?_, ?_, ?_,H.rm,H.nm,H.sc,H.rl,H.ri⟩⟩⟩
 ·exact l.rc.frame fun b hb=>hw b (.inl hb)
 ·exact l.ro.frame fun b hb=>hw b (.inr (.inl hb))
 ·intro b z hz
  show z=cellOf s.o.words (ag ws' b).words
  rw[hw b (.inr (.inr (by rw[hz];rfl)))]
  exact l.fit b z hz
 ·intro b hb
  show lq (rd ws' b)=true/\ (ag ws' b).old=false/\ (ag ws' b).aY=false/\bH ws' b=b
  have hb2:gQ s cur az b:= .inl hb
  obtain⟨h1,h2,h3,h4⟩:=H.Dv b hb
  rw[K.hd b hb2,if_neg (hno b (.inl hb)),K.way b hb2]
  exact⟨K.ok b hb2 h1,h2,h3,h4⟩
 ·intro b hb
  show lq (rd ws' b)=true/\ (ag ws' b).old=false/\ (ag ws' b).aY=false/\ (bH ws' b=b∨bH ws' b∈cur∨(1+2*s.C.aU<=bH ws' b/\bH ws' b<ws'.length))
  have hb2:gQ s cur az b:= .inr (.inl hb)
  obtain⟨h1,h2,h3,h4⟩:=H.Fg b hb
  rw[K.hd b hb2,if_neg (hno b (.inr hb)),K.way b hb2,hlen]
  exact⟨K.ok b hb2 h1,h2,h3,h4⟩
 ·intro b hb
  show lq (rd ws' b)=true/\ (ag ws' b).old=true/\bH ws' b=b
  have hb2:gQ s cur az b:= .inr (.inr hb)
  obtain⟨h1,h2,h3⟩:=H.Dw b hb
  rw[K.hd b hb2,K.way b hb2]
  refine⟨K.ok b hb2 h1, ?_,h3⟩
  split
  ·exact ho
  ·exact h2
 ·show s.copied=oK ws' az
  rw[H.cp]
  exact(mg fun b hb=>⟨K.way b (.inr (.inl hb)),hw b (.inr (.inl hb))⟩).symm
theorem getD_set_true{l:List Bool}{i j:Nat}(h:l.getD i false=true):(l.set j true).getD i false=true:=by
 simp only[List.getD_eq_getElem?_getD]at h⊢
 rw[List.getElem?_set]
 split
 ·rename_i e
  subst e
  split
  ·rfl
  ·rename_i hh
   rw[List.getElem?_eq_none (by omega)]at h
   exact h
 ·exact h
theorem Dz{l:List Bool}{j:Nat}(h:j<l.length):(l.set j true).getD j false=true:=by
 simp[List.getD_eq_getElem?_getD,List.getElem?_set,h]
theorem bz.GY(c:bz)(i b:Int)(h:c.marked b=true):(c.mark i).marked b=true:=by
 unfold bz.mark
 split
 ·unfold bz.marked at h⊢
  rw[Bool.and_eq_true]at h⊢
  exact⟨h.1,getD_set_true h.2⟩
 ·exact h
theorem bz.nR(c:bz)(i:Int):(c.mark i).base=c.base/\ (c.mark i).words=c.words/\ (c.mark i).card=c.card/\ (c.mark i).marks.length=c.marks.length:=by
 unfold bz.mark
 split<;>simp
theorem bz.Nw(c:bz)(i:Int)(h:c.has i=true)(h1:1<=c.card)(hl:(c.marks.length:Int)=bz.many c.words c.card):(c.mark i).marked i=true:=by
 have hh:=h
 unfold bz.has at hh
 rw[decide_eq_true_eq]at hh
 obtain⟨d0,d1⟩:=uy (x:=i-c.base) (by omega) hh.2 h1
 unfold bz.mark
 rw[if_pos h]
 unfold bz.marked
 rw[Bool.and_eq_true]
 exact⟨h,Dz (by omega)⟩
theorem add_same(r:iq)(i:Int):(r.add i).base=r.base/\ (r.add i).words=r.words/\ (r.add i).size=r.size/\ (r.add i).most=r.most/\ (r.add i).tb=r.tb/\ (r.add i).tc=r.tc/\
  (r.add i).nc.base=r.nc.base/\ (r.add i).nc.words=r.nc.words/\ (r.add i).nc.card=r.nc.card/\ (r.add i).nc.marks.length=r.nc.marks.length:=by
 unfold iq.add
 split
 ·split
  ·obtain⟨h1,h2,h3,h4⟩:=bz.nR r.nc i
   exact⟨rfl,rfl,rfl,rfl,rfl,rfl,h1,h2,h3,h4⟩
  ·exact⟨rfl,rfl,rfl,rfl,rfl,rfl,rfl,rfl,rfl,rfl⟩
 ·exact⟨rfl,rfl,rfl,rfl,rfl,rfl,rfl,rfl,rfl,rfl⟩
theorem xZ.add{s:af}(h:xZ s)(i:Int)(hi:I64 i)(ws':List Int):xZ {s with ws:=ws',r:=s.r.add i}:=by
 obtain⟨a1,a2,a3,a4,a5,a6,a7,a8,a9,a10⟩:=add_same s.r i
 obtain⟨c1,c2,c3,c4⟩:=h.nc
 refine⟨a1.trans h.base,a2.trans h.ws,a3.trans h.size,a4.trans h.most,⟨a7.trans c1,a8.trans c2,a9.trans c3, ?_⟩, ?_, ?_, ?_⟩
 ·show((s.r.add i).nc.marks.length:Int)=_
  rw[a10]
  exact c4
 ·show(s.r.add i).tc.base=_/\ (s.r.add i).tc.words=_/\ (s.r.add i).tc.card=_/\ ((s.r.add i).tc.marks.length:Int)=_
  rw[a6]
  exact h.tc
 ·intro x hx
  have hx':x∈(s.r.add i).nb.list∨x∈(s.r.add i).tb.list:=hx
  rw[a5]at hx'
  rcases hx' with hx|hx
  ·unfold iq.add at hx
   split at hx
   ·split at hx
    ·exact h.bi x (.inl hx)
    ·have hx2:x∈(s.r.nb.put i).list:=hx
     unfold jL.put at hx2
     split at hx2
     ·exact h.bi x (.inl hx2)
     ·rcases List.mem_append.1 hx2 with hx|hx
      ·exact h.bi x (.inl hx)
      ·rw[List.mem_singleton.1 hx]
       exact hi
   ·exact h.bi x (.inl hx)
  ·exact h.bi x (.inr hx)
 ·show(s.r.add i).nb.most=s.C.buffer/\ (s.r.add i).tb.most=s.C.buffer/\ ((s.r.add i).nb.list.length:Int)<=s.C.buffer/\ ((s.r.add i).tb.list.length:Int)<=s.C.buffer
  obtain⟨m1,m2,m3,m4⟩:=h.bm
  rw[a5]
  unfold iq.add
  split
  ·split
   ·exact⟨m1,m2,m3,m4⟩
   ·show(s.r.nb.put i).most=s.C.buffer/\s.r.tb.most=s.C.buffer/\ ((s.r.nb.put i).list.length:Int)<=s.C.buffer/\ (s.r.tb.list.length:Int)<=s.C.buffer
    unfold jL.put
    split
    ·exact⟨m1,m2,m3,m4⟩
    ·rename_i hf
     refine⟨m1,m2, ?_,m4⟩
     unfold jL.full at hf
     simp only[decide_eq_true_eq]at hf
     show((s.r.nb.list++[i]).length:Int)<=s.C.buffer
     rw[List.length_append]
     simp only[List.length_cons,List.length_nil]
     omega
  ·exact⟨m1,m2,m3,m4⟩
theorem Ny{s s':af}{i b:Int}(e:s'.r=s.r.add i)(h:s.jH b):s'.jH b:=by
 unfold af.jH at h⊢
 rw[e]
 unfold iq.add
 split
 ·split
  ·rcases h with h|h
   ·exact .inl h
   ·exact .inr (bz.GY _ _ _ h)
  ·rcases h with h|h
   ·refine .inl ?_
    show b∈(s.r.nb.put i).list
    unfold jL.put
    split
    ·exact h
    ·exact List.mem_append_left _ h
   ·exact .inr h
 ·exact h
theorem JH{s s':af}{i b:Int}(e:s'.r=s.r.add i):s'.dW b↔s.dW b:=by
 obtain⟨a1,a2,a3,a4,a5,a6,_⟩:=add_same s.r i
 unfold af.dW
 rw[e,a5,a6]
theorem BA{s s':af}{cur az:List Int}(l:Lay s cur az)(R:xZ s){a:Int}(ha:bV s a)(e:s'.r=s.r.add a):s'.jH a:=by
 obtain⟨n1,n2,n3,n4,n5,n6,n7,n8,n9,n10⟩:=l.nums
 have h1:=ha.1
 have h2:=ha.2
 obtain⟨c1,c2,c3,c4⟩:=R.nc
 have hh:s.r.has a=true:=by
  unfold iq.has
  rw[decide_eq_true_eq,R.base,R.ws]
  omega
 unfold af.jH
 rw[e]
 unfold iq.add
 rw[if_pos hh]
 split
 ·refine .inr (bz.Nw _ _ ?_ (by rw[c3];exact l.cf.c1) (by rw[c2,c3];exact c4))
  unfold bz.has
  rw[decide_eq_true_eq,c1,c2]
  omega
 ·rename_i hf
  refine .inl ?_
  show a∈(s.r.nb.put a).list
  unfold jL.put
  rw[if_neg hf]
  simp
theorem rQ{s:af}{cur az:List Int}{E F:Int->Prop}(I:Inv s cur az E F){a:Int}(ha:(s.o.aH a).isSome=true):
  Inv (s.note a) cur az E F/\ (ag (s.note a).ws a).aY=true/\ (s.note a).ws.length=s.ws.length/\ (∀b,gQ s cur az b-> ∀k:Int,0<=k->k<(ag s.ws b).ptrs->aQ (s.note a).ws b k=aQ s.ws b k)/\
  (∀b,gQ s cur az b->(ag (s.note a).ws b).size=(ag s.ws b).size/\ (ag (s.note a).ws b).ptrs=(ag s.ws b).ptrs/\ (ag (s.note a).ws b).old=(ag s.ws b).old/\ ((ag s.ws b).aY=true->(ag (s.note a).ws b).aY=true)/\bH (s.note a).ws b=bH s.ws b)/\
  (∀b,gQ s cur az b-> ∀k:Int,0<=k->k<(ag s.ws b).size->rd (s.note a).ws (b+2+k)=rd s.ws (b+2+k))/\
  (∀b,s.jH b->(s.note a).jH b)/\ (∀b,(s.note a).dW b↔s.dW b):=by
 obtain⟨l,H,R,RO⟩:=I
 have hO:=(H.Dw a ha).2.1
 have h0:a≠0:=l.not_zero (.inr (.inr ha))
 by_cases hn:(ag s.ws a).aY=true
 ·have e1:s.note a=s:=by simp[af.note,af.sN,hn]
  rw[e1]
  exact⟨⟨l,H,R,RO⟩,hn,rfl,fun _ _ _ _ _=>rfl,fun _ _=>⟨rfl,rfl,rfl,fun h=>h,rfl⟩,fun _ _ _ _ _=>rfl,fun _ h=>h,fun _=>Iff.rfl⟩
 ·have e1:s.note a={s with ws:=iQ s.ws a {ag s.ws a with aY:=true}.enc,r:=s.r.add a}:=by simp[af.note,af.sN,hn,hO,h0]
  rw[e1]
  have hg:({ag s.ws a with aY:=true}:Hd).Good:=dU (oU s.ws a)
  obtain⟨K,LH⟩:=KY l H ha (x:={ag s.ws a with aY:=true}) hg rfl hO
  obtain⟨l',H'⟩:=LH (s.r.add a)
  generalize hws:iQ s.ws a ({ag s.ws a with aY:=true}:Hd).enc=ws' at*
  have hI:gQ s cur az a:= .inr (.inr ha)
  have haI:I64 a:=by
   have:=l.pos hI
   have:=(aA s.ws a).1
   exact⟨by omega,by omega⟩
  have RS: ∀b,s.jH b->af.jH {s with ws:=ws',r:=s.r.add a} b:=fun b h=>Ny (s:=s) rfl h
  have Ec: ∀b,af.dW {s with ws:=ws',r:=s.r.add a} b↔s.dW b:=fun b=>JH (s:=s) rfl
  have hp: ∀b,gQ s cur az b->(ag ws' b).size=(ag s.ws b).size/\ (ag ws' b).ptrs=(ag s.ws b).ptrs/\ (ag ws' b).old=(ag s.ws b).old/\ ((ag s.ws b).aY=true->(ag ws' b).aY=true)/\bH ws' b=bH s.ws b:=by
   intro b hb
   rw[K.way b hb,K.hd b hb]
   split
   ·rename_i e2
    subst e2
    exact⟨rfl,rfl,rfl,fun _=>rfl,rfl⟩
   ·exact⟨rfl,rfl,rfl,fun h=>h,rfl⟩
  have hC: ∀b,bV {s with ws:=ws',r:=s.r.add a} b↔bV s b:=fun b=>by unfold bV;simp only[K.len]
  refine⟨⟨l',H',⟨?_, ?_, ?_, ?_, ?_⟩,RO.add a haI ws'⟩, ?_,K.len,K.ref,hp,K.WG,RS,Ec⟩
  ·intro b hb k k0 k1
   have k1':k<(ag ws' b).ptrs:=k1
   rw[(hp b (.inl hb)).2.1]at k1'
   show Dx _ cur az b (aQ ws' b k)
   rw[K.ref b (.inl hb) k k0 k1']
   rcases R.rC b hb k k0 k1' with h|h|h|h
   ·exact .inl h
   ·exact .inr (.inl ((hC _).2 h))
   ·exact .inr (.inr (.inl h))
   ·exact .inr (.inr (.inr h))
  ·intro b hb k k0 k1
   have k1':k<(ag ws' b).ptrs:=k1
   rw[(hp b (.inr (.inl hb))).2.1]at k1'
   show Dy _ az (aQ ws' b k)
   rw[K.ref b (.inr (.inl hb)) k k0 k1']
   rcases R.rO b hb k k0 k1' with h|h|h
   ·exact .inl h
   ·exact .inr (.inl ((hC _).2 h))
   ·exact .inr (.inr h)
  ·intro b hb k k0 k1
   have TR:gQ s cur az b:= .inr (.inr hb)
   have k1':k<(ag ws' b).ptrs:=k1
   obtain⟨_,q2,_,q4,_⟩:=hp b TR
   rw[q2]at k1'
   show aQ ws' b k=0∨bV {s with ws:=ws',r:=s.r.add a} (aQ ws' b k)∨(aQ ws' b k∈cur/\ (E b∨(ag ws' b).aY=true∨b∈s.row))∨(s.aG=true/\aQ ws' b k∈az/\ (E b∨b∈s.row∨((ag ws' b).aY=true/\af.dW {s with ws:=ws',r:=s.r.add a} b)))
   rw[hC,Ec,K.ref b TR k k0 k1']
   rcases R.rM b hb k k0 k1' with h|h|⟨h1,h2⟩|⟨h1,h2,h3⟩
   ·exact .inl h
   ·exact .inr (.inl h)
   ·refine .inr (.inr (.inl ⟨h1, ?_⟩))
    rcases h2 with h2|h2|h2
    ·exact .inl h2
    ·exact .inr (.inl (q4 h2))
    ·exact .inr (.inr h2)
   ·refine .inr (.inr (.inr ⟨h1,h2, ?_⟩))
    rcases h3 with h3|h3|⟨h3,h4⟩
    ·exact .inl h3
    ·exact .inr (.inl h3)
    ·exact .inr (.inr ⟨q4 h3,h4⟩)
  ·intro b hb hnb
   have hnb':(ag ws' b).aY=true:=hnb
   by_cases e2:b=a
   ·subst e2
    exact .inl (BA l RO (l.kC ha) rfl)
   ·rw[K.hd b (.inr (.inr hb)),if_neg e2]at hnb'
    rcases R.nt b hb hnb' with h|h
    ·exact .inl (RS b h)
    ·exact .inr (h.elim (fun h=> .inl ((Ec b).2 h)) .inr)
  ·intro h
   have:=R.tn h
   obtain⟨a1,a2,a3,a4,a5,a6,_⟩:=add_same s.r a
   show iq.left (s.r.add a)=0
   unfold iq.left at this⊢
   rw[a5,a6]
   exact this
  ·show(ag ws' a).aY=true
   rw[K.hd a hI,if_pos rfl]
theorem pW{s:af}{cur az:List Int}{E F:Int->Prop}(I:Inv s cur az E F){a:Int}(ha:a∈cur):s.note a=s:=by
 have:=(I.hds.Dv a ha).2.1
 simp[af.note,af.sN,this]
end Go.Proofs.YtibemcgdmembeaaGreat
namespace Go.Proofs.YtibemcgdmembeaaGreat
open Go.RowKit
theorem Refs.weak{s:af}{cur az:List Int}{E F E' F':Int->Prop}(R:Refs s cur az E F)(he: ∀b,E b->E' b)(hf: ∀b,F b->F' b):Refs s cur az E' F':=by
 refine⟨R.rC,R.rO, ?_, ?_,R.tn⟩
 ·intro b hb k k0 k1
  rcases R.rM b hb k k0 k1 with h|h|⟨h1,h2⟩|⟨h1,h2,h3⟩
  ·exact .inl h
  ·exact .inr (.inl h)
  ·exact .inr (.inr (.inl ⟨h1,h2.elim (fun h=> .inl (he b h)) .inr⟩))
  ·exact .inr (.inr (.inr ⟨h1,h2,h3.elim (fun h=> .inl (he b h)) .inr⟩))
 ·intro b hb hn
  rcases R.nt b hb hn with h|h|h
  ·exact .inl h
  ·exact .inr (.inl h)
  ·exact .inr (.inr (hf b h))
theorem Inv.weak{s:af}{cur az:List Int}{E F E' F':Int->Prop}(I:Inv s cur az E F)(he: ∀b,E b->E' b)(hf: ∀b,F b->F' b):Inv s cur az E' F':=⟨I.lay,I.hds,I.refs.weak he hf,I.rem⟩
theorem Inv.drop{s:af}{cur az:List Int}{E F E' F':Int->Prop}(I:Inv s cur az E F){a:Int}(he: ∀b,b≠a->E b->E' b)(hf: ∀b,b≠a->F b->F' b)
  (hr:(s.o.aH a).isSome=true-> ∀k:Int,0<=k->k<(ag s.ws a).ptrs->bT s cur (aQ s.ws a k)/\ (aQ s.ws a k∈cur->(ag s.ws a).aY=true))(hn:(s.o.aH a).isSome=true->(ag s.ws a).aY=true->s.jH a∨s.dW a∨F' a):Inv s cur az E' F':=by
 refine⟨I.lay,I.hds,⟨I.refs.rC,I.refs.rO, ?_, ?_,I.refs.tn⟩,I.rem⟩
 ·intro b hb k k0 k1
  by_cases e:b=a
  ·subst e
   obtain⟨h1,h2⟩:=hr hb k k0 k1
   rcases h1 with h|h|h
   ·exact .inl h
   ·exact .inr (.inl h)
   ·exact .inr (.inr (.inl ⟨h, .inr (.inl (h2 h))⟩))
  ·rcases I.refs.rM b hb k k0 k1 with h|h|⟨h1,h2⟩|⟨h1,h2,h3⟩
   ·exact .inl h
   ·exact .inr (.inl h)
   ·exact .inr (.inr (.inl ⟨h1,h2.elim (fun h=> .inl (he b e h)) .inr⟩))
   ·exact .inr (.inr (.inr ⟨h1,h2,h3.elim (fun h=> .inl (he b e h)) .inr⟩))
 ·intro b hb hnb
  by_cases e:b=a
  ·subst e
   exact hn hb hnb
  ·rcases I.refs.nt b hb hnb with h|h|h
   ·exact .inl h
   ·exact .inr (.inl h)
   ·exact .inr (.inr (hf b e h))
structure Fp(s:af)(cur az:List Int)(E F:Int->Prop)(a:Int)(s':af)(cur':List Int):Prop where
 inv:Inv s' cur' az E F
 mono: ∀b∈cur,b∈cur'
 C:s'.C=s.C
 t:s'.t=s.t
 parity:s'.parity=s.parity
 phase:s'.phase=s.phase
 aG:s'.aG=s.aG
 scan:s'.scan=s.scan
 wl:s'.ws.length=s.ws.length
 old: ∀b,(s.o.aH b).isSome=true->s'.o.aH b=s.o.aH b
 row: ∀b∈s.row,b∈s'.row
 size:(ag s'.ws a).size=(ag s.ws a).size
 ptrs:(ag s'.ws a).ptrs=(ag s.ws a).ptrs
 refs: ∀k:Int,0<=k->k<(ag s.ws a).ptrs->bT s' cur' (aQ s'.ws a k)
 note:(s.o.aH a).isSome=true-> ∀k:Int,0<=k->k<(ag s.ws a).ptrs->aQ s'.ws a k∈cur'->(ag s'.ws a).aY=true
 only:(s.o.aH a).isSome=true->(ag s'.ws a).aY=true->(ag s.ws a).aY=true∨s'.jH a
 others: ∀b,b≠a->(b∈cur∨(s.o.aH b).isSome=true)->ag s'.ws b=ag s.ws b
 now: ∀b,s.jH b->s'.jH b
 thn: ∀b,s'.dW b↔s.dW b
theorem jm(s:af)(a:Int):(s.note a).C=s.C/\ (s.note a).t=s.t/\ (s.note a).parity=s.parity/\ (s.note a).phase=s.phase/\ (s.note a).aG=s.aG/\ (s.note a).scan=s.scan/\ (s.note a).o=s.o/\ (s.note a).row=s.row/\ (s.note a).y=s.y/\ (s.note a).g=s.g/\ (s.note a).copied=s.copied/\ (s.note a).look=s.look/\ (s.note a).done=s.done:=by
 unfold af.note
 split<;>exact⟨rfl,rfl,rfl,rfl,rfl,rfl,rfl,rfl,rfl,rfl,rfl,rfl,rfl⟩
theorem uM{s:af}{cur az:List Int}{E F:Int->Prop}(I:Inv s cur az E F)(hmv:s.aG=true){a:Int}(ha:jI s cur E a): ∃cur',Fp s cur az E F a (s.through a) cur':=by
 have hp:((s.bQ a:Nat):Int)=(ag s.ws a).ptrs:=by
  have:=(aA s.ws a).2.2.2.1
  unfold af.bQ
  omega
 obtain⟨c1,R⟩:=Fj I hmv ha (s.bQ a) (by omega)
 have hd:=R.head
 have hrefs: ∀k:Int,0<=k->k<(ag s.ws a).ptrs->bT (s.jb a (s.bQ a)) c1 (aQ (s.jb a (s.bQ a)).ws a k):=by
  intro k k0 k1
  have:=R.done k.toNat (by omega)
  rwa[show((k.toNat:Nat):Int)=k by omega]at this
 have hyes: ∀k:Int,0<=k->k<(ag s.ws a).ptrs->aQ (s.jb a (s.bQ a)).ws a k∈c1->s.iU a (s.bQ a)=true:=by
  intro k k0 k1 h
  exact R.yes.2 ⟨k.toNat,by omega,by rwa[show((k.toNat:Nat):Int)=k by omega]⟩
 have hold:(s.o.aH a).isSome=true->((s.jb a (s.bQ a)).o.aH a).isSome=true:=fun h=>by rw[R.old a h];exact h
 have KZ: ∀b,b≠a->(b∈cur∨(s.o.aH b).isSome=true)->ag (s.jb a (s.bQ a)).ws b=ag s.ws b:=by
  intro b hba hb
  exact(R.same b hb hba).head (by have:=(aA s.ws b).1;omega)
 have TT: ∀b,s.jH b↔ (s.jb a (s.bQ a)).jH b:=fun b=>by unfold af.jH;rw[R.r]
 have TU: ∀b,(s.jb a (s.bQ a)).dW b↔s.dW b:=fun b=>by unfold af.dW;rw[R.r]
 have plain:s.through a=s.jb a (s.bQ a)->(s.iU a (s.bQ a)=true-> ¬(s.o.aH a).isSome=true)-> ∃cur',Fp s cur az E F a (s.through a) cur':=by
  intro e hny
  rw[e]
  refine⟨c1,R.inv,R.mono,R.C,R.t,R.parity,R.phase,R.aG,R.scan,R.wl,R.old,R.row,by rw[hd],by rw[hd],hrefs, ?_, ?_,KZ,fun b h=>(TT b).1 h,TU⟩
  ·intro ho k k0 k1 h
   exact absurd ho (hny (hyes k k0 k1 h))
  ·intro _ h
   rw[hd]at h
   exact .inl h
 by_cases hy:s.iU a (s.bQ a)=true
 ·rcases ha with hc|⟨ho,hE⟩
  ·have hno: ¬(s.o.aH a).isSome=true:=by
    intro h
    exact I.lay.Ak hc (.inr (I.lay.kC h))
   refine plain ?_ (fun _=>hno)
   unfold af.through
   rw[if_pos hy]
   exact pW R.inv (R.mono a hc)
  ·have e:s.through a=(s.jb a (s.bQ a)).note a:=by
    unfold af.through
    rw[if_pos hy]
   rw[e]
   obtain⟨I2,n1,n2,n3,n4,n5,n6,n7⟩:=rQ R.inv (hold ho)
   obtain⟨m1,m2,m3,m4,m5,m6,m7,m8,m9,m10,m11,m12,m13⟩:=jm (s.jb a (s.bQ a)) a
   have GV:gQ (s.jb a (s.bQ a)) c1 az a:= .inr (.inr (hold ho))
   obtain⟨h1,h2,h3,h4,h5⟩:=n4 a GV
   rw[hd]at h1 h2
   have hre: ∀k:Int,0<=k->k<(ag s.ws a).ptrs->aQ ((s.jb a (s.bQ a)).note a).ws a k=aQ (s.jb a (s.bQ a)).ws a k:=fun k k0 k1=>n3 a GV k k0 (by rw[hd];exact k1)
   refine⟨c1,I2,R.mono,m1.trans R.C,m2.trans R.t,m3.trans R.parity,m4.trans R.phase,m5.trans R.aG,m6.trans R.scan,n2.trans R.wl,fun b hb=>by rw[m7];exact R.old b hb,fun b hb=>by rw[m8];exact R.row b hb,h1,h2, ?_,fun _ _ _ _ _=>n1, ?_, ?_,fun b h=>n6 b ((TT b).1 h),fun b=>(n7 b).trans (TU b)⟩
   ·intro k k0 k1
    rw[hre k k0 k1]
    exact bT.mono m1 n2 (fun _ h=>h) (hrefs k k0 k1)
   ·intro _ _
    by_cases hn:(ag s.ws a).aY=true
    ·exact .inl hn
    ·right
     have hO:=(R.inv.hds.Dw a (hold ho)).2.1
     have h0:a≠0:=R.inv.lay.not_zero GV
     have e1:(s.jb a (s.bQ a)).note a={s.jb a (s.bQ a)with ws:=iQ (s.jb a (s.bQ a)).ws a {ag (s.jb a (s.bQ a)).ws a with aY:=true}.enc,r:=(s.jb a (s.bQ a)).r.add a}:=by
      have hn': ¬(ag (s.jb a (s.bQ a)).ws a).aY=true:=by rw[hd];exact hn
      simp[af.note,af.sN,hn',hO,h0]
     refine BA R.inv.lay R.inv.rem (R.inv.lay.kC (hold ho)) ?_
     rw[e1]
   ·intro b hba hb
    have TR:b∈c1∨((s.jb a (s.bQ a)).o.aH b).isSome=true:=hb.elim (fun h=> .inl (R.mono b h)) (fun h=> .inr (by rw[R.old b h];exact h))
    rw[<-KZ b hba hb]
    have hIb:gQ (s.jb a (s.bQ a)) c1 az b:=TR.elim .inl (fun h=> .inr (.inr h))
    unfold af.note
    split
    ·have hg:({ag (s.jb a (s.bQ a)).ws a with aY:=true}:Hd).Good:=dU (oU (s.jb a (s.bQ a)).ws a)
     obtain⟨K,_⟩:=KY R.inv.lay R.inv.hds (hold ho) (x:={ag (s.jb a (s.bQ a)).ws a with aY:=true}) hg rfl (R.inv.hds.Dw a (hold ho)).2.1
     have:=K.hd b hIb
     rw[if_neg hba]at this
     exact this
    ·rfl
 ·refine plain ?_ (fun h=>absurd h hy)
  unfold af.through
  rw[if_neg hy]
theorem BB{s:af}{cur az:List Int}{E F:Int->Prop}(I:Inv s cur az E F)(hmv:s.aG=true)(hok:s.pR=true):
  s.scan∈cur/\ ∃cur',Fp s cur az E F s.scan (s.through s.scan) cur'/\Inv s.vY cur' az E F/\s.vY.scan=s.scan+(ag s.ws s.scan).words:=by
 have hs:s.scan∈cur:=by
  unfold af.pR at hok
  rw[decide_eq_true_eq]at hok
  rcases(I.hds.sc hmv).2 with h|h
  ·omega
  ·exact h
 obtain⟨cur',R⟩:=uM I hmv (E:=E) (.inl hs)
 refine⟨hs,cur',R, ?_⟩
 obtain⟨l,H,Rf,RO⟩:=R.inv
 obtain⟨n1,n2,n3,n4,n5,n6,n7,n8,n9,n10⟩:=l.nums
 have hsc:=R.mono _ hs
 have hw:(ag (s.through s.scan).ws s.scan).words=(ag s.ws s.scan).words:=by
  show(ag (s.through s.scan).ws s.scan).size+2=(ag s.ws s.scan).size+2
  rw[R.size]
 have hin:=l.lT hsc
 rw[hw]at hin
 obtain⟨b1,b2,b3,b4,b5⟩:=aA s.ws s.scan
 have e1:wrap64 (s.scan+s.t_)=s.scan+(ag s.ws s.scan).words:=pq ⟨by unfold af.t_;omega,by unfold af.t_;omega⟩
 have e2:s.vY={s.through s.scan with scan:=s.scan+(ag s.ws s.scan).words}:=by
  unfold af.vY
  rw[e1]
 have hmv2:(s.through s.scan).aG=true:=R.aG.trans hmv
 refine⟨?_,by rw[e2]⟩
 rw[e2]
 refine⟨⟨l.cf,l.ov,l.ob,l.ow,l.ol,l.f0,l.f1,l.yw,l.u0,l.u1,l.wl,l.rc,l.ro,l.fit⟩,⟨H.par,H.Dv,H.Fg,H.Dw,H.cp,H.rm,H.nm, ?_,H.rl,H.ri⟩,⟨?_,Rf.rO,Rf.rM,Rf.nt,Rf.tn⟩,RO.same rfl rfl⟩
 ·intro _
  refine⟨?_, ?_⟩
  ·show(s.through s.scan).y.cf<=s.scan+_
   omega
  ·have:=l.rc.next hsc
   rw[hw]at this
   exact this
 ·intro b hb k k0 k1
  show aQ (s.through s.scan).ws b k=0∨bV (s.through s.scan) (aQ (s.through s.scan).ws b k)∨aQ (s.through s.scan).ws b k∈cur'∨((s.through s.scan).aG=true/\aQ (s.through s.scan).ws b k∈az/\s.scan+(ag s.ws s.scan).words<=b)
  by_cases e:b=s.scan
  ·have k1':k<(ag (s.through s.scan).ws b).ptrs:=k1
   rw[e,R.ptrs]at k1'
   rw[e]
   rcases R.refs k k0 k1' with h|h|h
   ·exact .inl h
   ·exact .inr (.inl h)
   ·exact .inr (.inr (.inl h))
  ·rcases Rf.rC b hb k k0 k1 with h|h|h|⟨h1,h2,h3⟩
   ·exact .inl h
   ·exact .inr (.inl h)
   ·exact .inr (.inr (.inl h))
   ·refine .inr (.inr (.inr ⟨h1,h2, ?_⟩))
    rw[R.scan]at h3
    have:=l.rc.apart hb hsc e
    have:=(aA (s.through s.scan).ws b).1
    omega
end Go.Proofs.YtibemcgdmembeaaGreat
namespace Go.Proofs.YtibemcgdmembeaaGreat
open Go.RowKit
def gq(_:Int):Prop:=False
theorem sS{s:af}{cur az:List Int}{E F E' F':Int->Prop}(I:Inv s cur az E F){a:Int}(ha:(s.o.aH a).isSome=true)(he: ∀b,E b->E' b)(hea:E' a)(hf: ∀b,b≠a->F b->F' b):
  Inv (s.dL a) cur az E' F'/\ag (s.dL a).ws a={ag s.ws a with aY:=false}/\ (∀b,gQ s cur az b->b≠a->ag (s.dL a).ws b=ag s.ws b)/\ (s.dL a).ws.length=s.ws.length/\
  (∀b,gQ s cur az b-> ∀k:Int,0<=k->k<(ag s.ws b).ptrs->aQ (s.dL a).ws b k=aQ s.ws b k)/\ (∀b,gQ s cur az b->bH (s.dL a).ws b=bH s.ws b)/\ (∀b,gQ s cur az b-> ∀k:Int,0<=k->k<(ag s.ws b).size->rd (s.dL a).ws (b+2+k)=rd s.ws (b+2+k)):=by
 obtain⟨l,H,R,RO⟩:=I
 have hO:=(H.Dw a ha).2.1
 have hg:({ag s.ws a with aY:=false}:Hd).Good:=dU (oU s.ws a)
 obtain⟨K,LH⟩:=KY l H ha (x:={ag s.ws a with aY:=false}) hg rfl hO
 obtain⟨l',H'⟩:=LH s.r
 have e1:s.dL a={s with ws:=iQ s.ws a {ag s.ws a with aY:=false}.enc,r:=s.r}:=rfl
 rw[e1]
 generalize hws:iQ s.ws a ({ag s.ws a with aY:=false}:Hd).enc=ws' at*
 have hI:gQ s cur az a:= .inr (.inr ha)
 have hp: ∀b,gQ s cur az b->(ag ws' b).ptrs=(ag s.ws b).ptrs:=by
  intro b hb
  rw[K.hd b hb]
  split
  ·rename_i e2
   subst e2
   rfl
  ·rfl
 have hC: ∀b,bV {s with ws:=ws',r:=s.r} b↔bV s b:=fun b=>by unfold bV;simp only[K.len]
 refine⟨⟨l',H',⟨?_, ?_, ?_, ?_,R.tn⟩,RO.same rfl rfl⟩, ?_, ?_,K.len,K.ref,K.way,K.WG⟩
 ·intro b hb k k0 k1
  have k1':k<(ag ws' b).ptrs:=k1
  rw[hp b (.inl hb)]at k1'
  show Dx _ cur az b (aQ ws' b k)
  rw[K.ref b (.inl hb) k k0 k1']
  rcases R.rC b hb k k0 k1' with h|h|h|h
  ·exact .inl h
  ·exact .inr (.inl ((hC _).2 h))
  ·exact .inr (.inr (.inl h))
  ·exact .inr (.inr (.inr h))
 ·intro b hb k k0 k1
  have k1':k<(ag ws' b).ptrs:=k1
  rw[hp b (.inr (.inl hb))]at k1'
  show Dy _ az (aQ ws' b k)
  rw[K.ref b (.inr (.inl hb)) k k0 k1']
  rcases R.rO b hb k k0 k1' with h|h|h
  ·exact .inl h
  ·exact .inr (.inl ((hC _).2 h))
  ·exact .inr (.inr h)
 ·intro b hb k k0 k1
  have TR:gQ s cur az b:= .inr (.inr hb)
  have k1':k<(ag ws' b).ptrs:=k1
  rw[hp b TR]at k1'
  show aQ ws' b k=0∨bV {s with ws:=ws',r:=s.r} (aQ ws' b k)∨(aQ ws' b k∈cur/\ (E' b∨(ag ws' b).aY=true∨b∈s.row))∨(s.aG=true/\aQ ws' b k∈az/\ (E' b∨b∈s.row∨((ag ws' b).aY=true/\s.dW b)))
  rw[hC,K.ref b TR k k0 k1',K.hd b TR]
  by_cases e:b=a
  ·subst e
   rcases R.rM b hb k k0 k1' with h|h|⟨h1,h2⟩|⟨h1,h2,h3⟩
   ·exact .inl h
   ·exact .inr (.inl h)
   ·exact .inr (.inr (.inl ⟨h1, .inl hea⟩))
   ·exact .inr (.inr (.inr ⟨h1,h2, .inl hea⟩))
  ·rw[if_neg e]
   rcases R.rM b hb k k0 k1' with h|h|⟨h1,h2⟩|⟨h1,h2,h3⟩
   ·exact .inl h
   ·exact .inr (.inl h)
   ·exact .inr (.inr (.inl ⟨h1,h2.elim (fun h=> .inl (he b h)) .inr⟩))
   ·exact .inr (.inr (.inr ⟨h1,h2,h3.elim (fun h=> .inl (he b h)) .inr⟩))
 ·intro b hb hnb
  have hnb':(ag ws' b).aY=true:=hnb
  by_cases e2:b=a
  ·subst e2
   rw[K.hd b hI,if_pos rfl]at hnb'
   cases hnb'
  ·rw[K.hd b (.inr (.inr hb)),if_neg e2]at hnb'
   rcases R.nt b hb hnb' with h|h|h
   ·exact .inl h
   ·exact .inr (.inl h)
   ·exact .inr (.inr (hf b e2 h))
 ·show ag ws' a=_
  rw[K.hd a hI,if_pos rfl]
 ·intro b hb e
  show ag ws' b=_
  rw[K.hd b hb,if_neg e]
structure PU(s:af)(cur:List Int)(a:Int)(s':af)(cur':List Int):Prop where
 mono: ∀b∈cur,b∈cur'
 C:s'.C=s.C
 t:s'.t=s.t
 parity:s'.parity=s.parity
 phase:s'.phase=s.phase
 aG:s'.aG=s.aG
 scan:s'.scan=s.scan
 wl:s'.ws.length=s.ws.length
 old: ∀b,(s.o.aH b).isSome=true->s'.o.aH b=s.o.aH b
 others: ∀b,b≠a->(b∈cur∨(s.o.aH b).isSome=true)->ag s'.ws b=ag s.ws b
 thn: ∀b,s'.dW b↔s.dW b
theorem yQ{s:af}{cur az:List Int}{E F E' F':Int->Prop}(I:Inv s cur az E F)(hmv:s.aG=true){a:Int}(hEn:(s.o.aH a).isSome=true->E a->(ag s.ws a).aY=true)(he: ∀b,b≠a->E b->E' b)(hf: ∀b,b≠a->F b->F' b):
  (s.iV a=true->(s.dL a).qm a)/\ ∃cur',Inv (s.fD a) cur' az E' F'/\PU s cur a (s.fD a) cur':=by
 by_cases hq:s.iV a=true
 ·have hq2:=hq
  unfold af.iV at hq2
  rw[Bool.and_eq_true]at hq2
  obtain⟨ha,hn⟩:=hq2
  obtain⟨I1,u1,u2,u3,u4,u5,u6⟩:=sS (E':=fun b=>E b∨b=a) (F':=F') I ha (fun b h=> .inl h) (.inr rfl) hf
  have hL:jI (s.dL a) cur (fun b=>E b∨b=a) a:= .inr ⟨ha, .inr rfl⟩
  have PV:(s.dL a).aG=true:=hmv
  refine⟨fun _=>JG I1 PV hL, ?_⟩
  obtain⟨c1,L⟩:=uM I1 PV hL
  have e1:s.fD a=(s.dL a).through a:=by
   unfold af.fD
   rw[if_pos hq]
  rw[e1]
  have ha1:(((s.dL a).through a).o.aH a)=s.o.aH a:=L.old a ha
  refine⟨c1,L.inv.drop (a:=a) ?_ (fun b _ h=>h) ?_ ?_,L.mono,L.C,L.t,L.parity,L.phase,L.aG,L.scan,L.wl.trans u3,L.old, ?_,fun b=>L.thn b⟩
  ·intro b hb h
   rcases h with h|h
   ·exact he b hb h
   ·exact absurd h hb
  ·intro _ k k0 k1
   rw[L.ptrs]at k1
   exact⟨L.refs k k0 k1,L.note ha k k0 k1⟩
  ·intro _ h
   rcases L.only ha h with h|h
   ·rw[u1]at h
    cases h
   ·exact .inl h
  ·intro b hba hb
   rw[L.others b hba hb]
   exact u2 b (hb.elim .inl (fun h=> .inr (.inr h))) hba
 ·refine⟨fun h=>absurd h hq,cur, ?_, ?_⟩
  ·have e1:s.fD a=s:=by
    unfold af.fD
    rw[if_neg hq]
   rw[e1]
   by_cases ha:(s.o.aH a).isSome=true
   ·have hn: ¬(ag s.ws a).aY=true:=by
     intro h
     apply hq
     unfold af.iV
     rw[ha,h]
     rfl
    have hEa: ¬E a:=fun h=>hn (hEn ha h)
    refine⟨I.lay,I.hds,⟨I.refs.rC,I.refs.rO, ?_, ?_,I.refs.tn⟩,I.rem⟩
    ·intro b hb k k0 k1
     have he2:E b->E' b:=fun h=>by
      by_cases e:b=a
      ·rw[e]at h
       exact absurd h hEa
      ·exact he b e h
     rcases I.refs.rM b hb k k0 k1 with h|h|⟨h1,h2⟩|⟨h1,h2,h3⟩
     ·exact .inl h
     ·exact .inr (.inl h)
     ·exact .inr (.inr (.inl ⟨h1,h2.elim (fun h=> .inl (he2 h)) .inr⟩))
     ·exact .inr (.inr (.inr ⟨h1,h2,h3.elim (fun h=> .inl (he2 h)) .inr⟩))
    ·intro b hb hnb
     rcases I.refs.nt b hb hnb with h|h|h
     ·exact .inl h
     ·exact .inr (.inl h)
     ·refine .inr (.inr (hf b ?_ h))
      intro e
      rw[e]at hnb
      exact hn hnb
   ·exact I.drop he hf (fun h=>absurd h ha) (fun h=>absurd h ha)
  ·have e1:s.fD a=s:=by
    unfold af.fD
    rw[if_neg hq]
   rw[e1]
   exact⟨fun _ h=>h,rfl,rfl,rfl,rfl,rfl,rfl,rfl,fun _ _=>rfl,fun _ _ _=>rfl,fun _=>Iff.rfl⟩
theorem GZ{az:List Int}: ∀(l:List Int) {s:af} {cur:List Int},Inv s cur az (fun b=>b∈l/\ (ag s.ws b).aY=true) (fun b=>b∈l)->s.aG=true->(∀b∈l,(s.o.aH b).isSome=true)->(∀b∈l,I64 b)->
  s.Bj l/\ ∃cur',Inv (s.iF l) cur' az gq gq/\ (∀b∈cur,b∈cur')/\ (s.iF l).C=s.C/\ (s.iF l).t=s.t/\ (s.iF l).parity=s.parity/\ (s.iF l).phase=s.phase/\ (s.iF l).aG=s.aG/\ (s.iF l).scan=s.scan
 |[],s,cur,I,_,_,_=>⟨fun j a h=>by simp at h,cur,I.weak (fun b h=>by cases h.1) (fun b h=>by cases h),fun _ h=>h,rfl,rfl,rfl,rfl,rfl,rfl⟩
 |a::l,s,cur,I,hmv,ho,hi=>by
  obtain⟨hok,c1,I1,N⟩:=yQ (a:=a) (E':=fun b=>b≠a/\b∈l/\ (ag s.ws b).aY=true) (F':=fun b=>b∈l) I hmv (fun _ h=>h.2)
   (fun b hb h=>⟨hb,(List.mem_cons.1 h.1).resolve_left hb,h.2⟩) (fun b hb h=>(List.mem_cons.1 h).resolve_left hb)
  have hds: ∀b∈l,b≠a->ag (s.fD a).ws b=ag s.ws b:=fun b hb hba=>N.others b hba (.inr (ho b (List.mem_cons_of_mem _ hb)))
  obtain⟨hP,c2,I2,m2,q1,q2,q3,q4,q5,q6⟩:=GZ l (s:=s.fD a) (cur:=c1) (I1.weak (fun b h=>⟨h.2.1,by rw[hds b h.2.1 h.1];exact h.2.2⟩) (fun _ h=>h)) (N.aG.trans hmv)
   (fun b hb=>by rw[N.old b (ho b (List.mem_cons_of_mem _ hb))];exact ho b (List.mem_cons_of_mem _ hb)) (fun b hb=>hi b (List.mem_cons_of_mem _ hb))
  refine⟨?_,c2,I2,fun b h=>m2 b (N.mono b h),q1.trans N.C,q2.trans N.t,q3.trans N.parity,q4.trans N.phase,q5.trans N.aG,q6.trans N.scan⟩
  intro j b hb
  cases j with
  |zero=>
   simp only[List.getElem?_cons_zero,Option.some.injEq]at hb
   subst hb
   exact⟨I.lay.ov.ok,hi a (List.mem_cons_self ..),hok⟩
  |succ j=>
   simp only[List.getElem?_cons_succ]at hb
   exact hP j b hb
theorem Ed{s:af}{cur az:List Int}{E F E':Int->Prop}(I:Inv s cur az E F)(he: ∀b,E b->E' b)(hh:0<s.row.length->E' s.h_):Inv s.mY cur az E' F:=by
 obtain⟨l,H,R,RO⟩:=I
 have hrow: ∀b,b∈s.row->E' b∨b∈s.row.tail:=by
  intro b hb
  unfold af.h_ at hh
  cases hr:s.row with
  |nil=>rw[hr]at hb;cases hb
  |cons x l=>
   rw[hr]at hb hh
   rcases List.mem_cons.1 hb with e|h
   ·left
    rw[e]
    exact hh (by simp)
   ·exact .inr h
 refine⟨⟨l.cf,l.ov,l.ob,l.ow,l.ol,l.f0,l.f1,l.yw,l.u0,l.u1,l.wl,l.rc,l.ro,l.fit⟩,⟨H.par,H.Dv,H.Fg,H.Dw,H.cp,H.rm,H.nm,H.sc, ?_,fun b hb=>H.ri b (List.mem_of_mem_tail hb)⟩,⟨R.rC,R.rO, ?_,R.nt,R.tn⟩,RO.same rfl rfl⟩
 ·have:=H.rl
  show 2*(s.row.tail.length:Int)<=s.copied
  rw[List.length_tail]
  omega
 ·intro b hb k k0 k1
  show aQ s.ws b k=0∨bV s (aQ s.ws b k)∨(aQ s.ws b k∈cur/\ (E' b∨(ag s.ws b).aY=true∨b∈s.row.tail))∨(s.aG=true/\aQ s.ws b k∈az/\ (E' b∨b∈s.row.tail∨((ag s.ws b).aY=true/\s.dW b)))
  rcases R.rM b hb k k0 k1 with h|h|⟨h1,h2⟩|⟨h1,h2,h3⟩
  ·exact .inl h
  ·exact .inr (.inl h)
  ·refine .inr (.inr (.inl ⟨h1, ?_⟩))
   rcases h2 with h2|h2|h2
   ·exact .inl (he b h2)
   ·exact .inr (.inl h2)
   ·exact(hrow b h2).elim .inl (fun h=> .inr (.inr h))
  ·refine .inr (.inr (.inr ⟨h1,h2, ?_⟩))
   rcases h3 with h3|h3|h3
   ·exact .inl (he b h3)
   ·exact(hrow b h3).elim .inl (fun h=> .inr (.inl h))
   ·exact .inr (.inr h3)
theorem K_{s:af}{cur az:List Int}(I:Inv s cur az gq gq)(hmv:s.aG=true):
  ((s.o.aH s.h_).isSome=true->s.mY.qm s.h_)/\ ∃cur',Inv s.rF cur' az gq gq/\ (∀b∈cur,b∈cur')/\s.rF.C=s.C/\s.rF.t=s.t/\s.rF.parity=s.parity/\s.rF.phase=s.phase/\s.rF.aG=s.aG/\s.rF.scan=s.scan:=by
 have I1:Inv s.mY cur az (fun b=>b=s.h_) gq:=Ed I (fun b h=>h.elim) (fun _=>rfl)
 by_cases ha:(s.o.aH s.h_).isSome=true
 ·have hL:jI s.mY cur (fun b=>b=s.h_) s.h_:= .inr ⟨ha,rfl⟩
  have PV:s.mY.aG=true:=hmv
  refine⟨fun _=>JG I1 PV hL, ?_⟩
  obtain⟨c1,L⟩:=uM I1 PV hL
  have e1:s.rF=s.mY.through s.h_:=by
   unfold af.rF
   rw[if_pos ha]
  rw[e1]
  refine⟨c1,L.inv.drop (a:=s.h_) (fun b hb h=>absurd h hb) (fun b _ h=>h) ?_ ?_,L.mono,L.C,L.t,L.parity,L.phase,L.aG,L.scan⟩
  ·intro _ k k0 k1
   rw[L.ptrs]at k1
   exact⟨L.refs k k0 k1,L.note ha k k0 k1⟩
  ·intro h hn
   rcases L.inv.refs.nt _ h hn with h|h|h
   ·exact .inl h
   ·exact .inr (.inl h)
   ·exact h.elim
 ·refine⟨fun h=>absurd h ha,cur, ?_⟩
  have e1:s.rF=s.mY:=by
   unfold af.rF
   rw[if_neg ha]
  rw[e1]
  exact⟨I1.drop (a:=s.h_) (fun b hb h=>absurd h hb) (fun b _ h=>h) (fun h=>absurd h ha) (fun h=>absurd h ha),fun _ h=>h,rfl,rfl,rfl,rfl,rfl,rfl⟩
theorem Am{l:List Int}{n:Int}(h:(l.length:Int)<=n):(l.tail.length:Int)<=n:=by
 rw[List.length_tail]
 omega
theorem vC{s:af}{cur az:List Int}{E F:Int->Prop}(I:Inv s cur az gq gq)(hmv:s.aG=true)(r':iq)(RO:xZ {s with r:=r'})(dQ: ∀b,s.jH b->af.jH {s with r:=r'} b)
  (Nz: ∀b,(s.o.aH b).isSome=true->(ag s.ws b).aY=true->s.dW b->af.dW {s with r:=r'} b∨(E b/\F b)):Inv {s with r:=r'} cur az E F:=by
 obtain⟨l,H,R,_⟩:=I
 refine⟨⟨l.cf,l.ov,l.ob,l.ow,l.ol,l.f0,l.f1,l.yw,l.u0,l.u1,l.wl,l.rc,l.ro,l.fit⟩,⟨H.par,H.Dv,H.Fg,H.Dw,H.cp,H.rm,H.nm,H.sc,H.rl,H.ri⟩,⟨R.rC,R.rO, ?_, ?_, ?_⟩,RO⟩
 ·intro b hb k k0 k1
  show aQ s.ws b k=0∨bV s (aQ s.ws b k)∨(aQ s.ws b k∈cur/\ (E b∨(ag s.ws b).aY=true∨b∈s.row))∨(s.aG=true/\aQ s.ws b k∈az/\ (E b∨b∈s.row∨((ag s.ws b).aY=true/\af.dW {s with r:=r'} b)))
  rcases R.rM b hb k k0 k1 with h|h|⟨h1,h2⟩|⟨h1,h2,h3⟩
  ·exact .inl h
  ·exact .inr (.inl h)
  ·exact .inr (.inr (.inl ⟨h1,h2.elim (fun h=>h.elim) .inr⟩))
  ·refine .inr (.inr (.inr ⟨h1,h2, ?_⟩))
   rcases h3 with h3|h3|⟨h3,h4⟩
   ·exact h3.elim
   ·exact .inr (.inl h3)
   ·rcases Nz b hb h3 h4 with h|h
    ·exact .inr (.inr ⟨h3,h⟩)
    ·exact .inl h.1
 ·intro b hb hn
  rcases R.nt b hb hn with h|h|h
  ·exact .inl (dQ b h)
  ·rcases Nz b hb hn h with h|h
   ·exact .inr (.inl h)
   ·exact .inr (.inr h.2)
  ·exact h.elim
 ·intro h
  have h':s.aG=false:=h
  rw[hmv]at h'
  cases h'
end Go.Proofs.YtibemcgdmembeaaGreat
namespace Go.Proofs.YtibemcgdmembeaaGreat
open Go.RowKit
structure Kept(s:af)(s':af):Prop where
 C:s'.C=s.C
 t:s'.t=s.t
 parity:s'.parity=s.parity
 phase:s'.phase=s.phase
theorem La{s:af}{cur az:List Int}(I:Inv s cur az gq gq)(hmv:s.aG=true){x:Int}{l:List Int}(hx:s.r.tb.list=x::l):
  (s.fV.iV x=true->(s.fV.dL x).qm x)/\ ∃cur',Inv (s.fV.fD x) cur' az gq gq/\ (∀b∈cur,b∈cur')/\Kept s (s.fV.fD x)/\ (s.fV.fD x).aG=true/\ (s.fV.fD x).scan=s.scan:=by
 have RO:=I.rem
 have I1:Inv s.fV cur az (fun b=>b=x/\ (ag s.ws b).aY=true) (fun b=>b=x):=by
  refine vC I hmv {s.r with tb:=s.r.tb.rest} ⟨RO.base,RO.ws,RO.size,RO.most,RO.nc,RO.tc,fun y hy=>RO.bi y (hy.elim .inl (fun h=> .inr (List.mem_of_mem_tail h))),RO.bm.1,RO.bm.2.1,RO.bm.2.2.1,Am RO.bm.2.2.2⟩ (fun _ h=>h) ?_
  intro b _ hn h
  rcases h with h|h
  ·rw[hx]at h
   rcases List.mem_cons.1 h with h|h
   ·exact .inr ⟨⟨h,hn⟩,h⟩
   ·refine .inl (.inl ?_)
    show b∈s.r.tb.list.tail
    rw[hx]
    exact h
  ·exact .inl (.inr h)
 obtain⟨h1,c1,I2,N⟩:=yQ (a:=x) (E':=gq) (F':=gq) I1 hmv (fun _ h=>h.2) (fun b hb h=>absurd h.1 hb) (fun b hb h=>absurd h hb)
 exact⟨h1,c1,I2,N.mono,⟨N.C,N.t,N.parity,N.phase⟩,N.aG.trans hmv,N.scan⟩
theorem bz.Lc{c:bz}{b:Int}(h1:1<=c.card)(hb:c.has b=true):c.lI ((b-c.base)/c.card).toNat<=b/\b<c.lJ ((b-c.base)/c.card).toNat:=by
 unfold bz.has at hb
 rw[decide_eq_true_eq]at hb
 have e:c.card*((b-c.base)/c.card)+(b-c.base) % c.card=b-c.base:=Int.mul_ediv_add_emod ..
 have m1:0<=(b-c.base) % c.card:=Int.emod_nonneg _ (by omega)
 have m2:(b-c.base) % c.card<c.card:=Int.emod_lt_of_pos _ (by omega)
 have q0:0<=(b-c.base)/c.card:=Int.ediv_nonneg (by omega) (by omega)
 generalize (b-c.base)/c.card=q at*
 have hq:((q.toNat:Nat):Int)=q:=by omega
 unfold bz.lI bz.lJ
 rw[hq]
 have c1:q*c.card=c.card*q:=Int.mul_comm ..
 have c2:(q+1)*c.card=c.card*q+c.card:=by rw[Int.add_mul,Int.one_mul,Int.mul_comm]
 rw[c1,c2]
 generalize c.card*q=m at*
 omega
theorem bz.BC{c:bz}{n:Nat}{b:Int}(h:c.marked b=true)(hn:((b-c.base)/c.card).toNat≠n):(c.KL n).marked b=true:=by
 unfold bz.marked at h⊢
 rw[Bool.and_eq_true]at h⊢
 refine⟨h.1, ?_⟩
 show(c.marks.set n false).getD ((b-c.base)/c.card).toNat false=true
 have:=h.2
 simp only[List.getD_eq_getElem?_getD]at this⊢
 rw[List.getElem?_set,if_neg (fun e=>hn e.symm)]
 exact this
theorem G5{s:af}{cur az:List Int}(I:Inv s cur az gq gq)(hmv:s.aG=true)(hx:s.r.tb.list=[])(n:Nat):
  (s.fB n).Bj (s.bF n)/\ ∃cur',Inv ((s.fB n).iF (s.bF n)) cur' az gq gq/\ (∀b∈cur,b∈cur')/\Kept s ((s.fB n).iF (s.bF n))/\ ((s.fB n).iF (s.bF n)).aG=true/\ ((s.fB n).iF (s.bF n)).scan=s.scan:=by
 have RO:=I.rem
 obtain⟨t1,t2,t3,t4⟩:=RO.tc
 have hst: ∀b,b∈s.bF n↔s.r.tc.lI n<=b/\b<s.r.tc.lJ n/\ (s.o.aH b).isSome=true:=fun b=>nO I.lay.ov
 have I1:Inv (s.fB n) cur az (fun b=>b∈s.bF n/\ (ag (s.fB n).ws b).aY=true) (fun b=>b∈s.bF n):=by
  refine vC I hmv {s.r with tb:=s.r.tb.rest,tc:=s.r.tc.KL n} ⟨RO.base,RO.ws,RO.size,RO.most,RO.nc,⟨t1,t2,t3, ?_⟩,fun y hy=>RO.bi y (hy.elim .inl (fun h=> .inr (List.mem_of_mem_tail h))),RO.bm.1,RO.bm.2.1,RO.bm.2.2.1,Am RO.bm.2.2.2⟩ (fun _ h=>h) ?_
  ·show((s.r.tc.marks.set n false).length:Int)=_
   rw[List.length_set]
   exact t4
  ·intro b ho hn h
   rcases h with h|h
   ·rw[hx]at h
    cases h
   ·by_cases e:((b-s.r.tc.base)/s.r.tc.card).toNat=n
    ·right
     have hh:=h
     unfold bz.marked at hh
     rw[Bool.and_eq_true]at hh
     have:=bz.Lc (c:=s.r.tc) (by rw[t3];exact I.lay.cf.c1) hh.1
     rw[e]at this
     have hb:b∈s.bF n:=(hst b).2 ⟨this.1,this.2,ho⟩
     exact⟨⟨hb,hn⟩,hb⟩
    ·exact .inl (.inr (bz.BC h e))
 have hold: ∀b∈s.bF n,((s.fB n).o.aH b).isSome=true:=fun b hb=>((hst b).1 hb).2.2
 obtain⟨h1,c1,I2,m,q1,q2,q3,q4,q5,q6⟩:=GZ (s.bF n) I1 hmv hold (by
  intro b hb
  have:=I.lay.pos (.inr (.inr (hold b hb)))
  have:=(aA s.ws b).1
  exact⟨by omega,by omega⟩)
 exact⟨h1,c1,I2,m,⟨q1,q2,q3,q4⟩,q5.trans hmv,q6⟩
theorem zB: ∀{l:List Bool} {k:Nat},firstT l k=none->(∀i,l.getD i false=false)/\jE l=0
 |[],_,_=>⟨fun _=>rfl,rfl⟩
 |b::l,k,h=>by
  unfold firstT at h
  split at h
  ·cases h
  ·rename_i hb
   have hb':b=false:=by simpa using hb
   obtain⟨h1,h2⟩:=zB h
   subst hb'
   refine⟨fun i=> ?_, ?_⟩
   ·cases i with
    |zero=>rfl
    |succ i=>exact h1 i
   ·unfold jE at h2⊢
    simpa using h2
theorem BD{s:af}{cur az:List Int}(I:Inv s cur az gq gq)(hmv:s.aG=true)(hr:s.row.length=0)(hx:s.r.tb.list=[])(hc:s.r.tc.first=none)(hs: ¬s.pR=true):Inv s.gK cur [] gq gq:=by
 obtain⟨l,H,R,RO⟩:=I
 obtain⟨n1,n2,n3,n4,n5,n6,n7,n8,n9,n10⟩:=l.nums
 have hrow:s.row=[]:=List.length_eq_zero_iff.1 hr
 obtain⟨f1,f2⟩:=zB hc
 have Nz: ∀b,¬s.dW b:=by
  rintro b (h|h)
  ·rw[hx]at h;cases h
  ·unfold bz.marked at h
   rw[Bool.and_eq_true]at h
   rw[f1]at h
   cases h.2
 have hscan:s.y.cf+s.y.cu<=s.scan:=by
  unfold af.pR at hs
  rw[decide_eq_true_eq]at hs
  omega
 have ycf:s.y.drop.cf=s.y.cf/\s.y.drop.cu=s.y.cu/\s.y.drop.of=s.y.of/\s.y.drop.ou=0/\s.y.drop.f0=s.y.f0/\s.y.drop.f1=s.y.f1/\s.y.drop.words=s.y.words/\ (s.y.drop.u0=0∨s.y.drop.u0=s.y.u0)/\ (s.y.drop.u1=0∨s.y.drop.u1=s.y.u1):=by
  obtain⟨a1,a2,a3,a4,a5,a6⟩:=s.y
  cases a6<;>simp[aJ.drop,aJ.cf,aJ.cu,aJ.of,aJ.ou]
 obtain⟨y1,y2,y3,y4,y5,y6,y7,y8,y9⟩:=ycf
 have hu0:=l.u0
 have hu1:=l.u1
 refine⟨⟨l.cf,l.ov,l.ob,l.ow,l.ol,y5.trans l.f0,y6.trans l.f1,y7.trans l.yw, ?_, ?_,l.wl, ?_, ?_,l.fit⟩,⟨H.par,H.Dv, ?_,H.Dw, ?_, ?_,fun _=>rfl, ?_, ?_,H.ri⟩,⟨?_, ?_, ?_, ?_, ?_⟩,RO.same rfl rfl⟩
 ·show 0<=s.y.drop.u0/\s.y.drop.u0<=s.C.aU
  omega
 ·show 0<=s.y.drop.u1/\s.y.drop.u1<=s.C.aU
  omega
 ·show ig s.ws s.y.drop.cf (s.y.drop.cf+s.y.drop.cu) cur
  rw[y1,y2]
  exact l.rc
 ·show s.y.drop.of=s.y.drop.of+s.y.drop.ou
  omega
 ·intro b hb;cases hb
 ·rfl
 ·intro h;cases h
 ·intro h;cases h
 ·show 2*(s.row.length:Int)<=0
  omega
 ·intro b hb k k0 k1
  show aQ s.ws b k=0∨bV s (aQ s.ws b k)∨aQ s.ws b k∈cur∨_
  rcases R.rC b hb k k0 k1 with h|h|h|⟨h1,h2,h3⟩
  ·exact .inl h
  ·exact .inr (.inl h)
  ·exact .inr (.inr (.inl h))
  ·have h4:=l.lT hb
   have:=(aA s.ws b).1
   omega
 ·intro b hb;cases hb
 ·intro b hb k k0 k1
  show aQ s.ws b k=0∨bV s (aQ s.ws b k)∨(aQ s.ws b k∈cur/\ (gq b∨(ag s.ws b).aY=true∨b∈s.row))∨_
  rcases R.rM b hb k k0 k1 with h|h|h|⟨h1,h2,h3⟩
  ·exact .inl h
  ·exact .inr (.inl h)
  ·exact .inr (.inr (.inl h))
  ·rcases h3 with h3|h3|⟨h3,h4⟩
   ·exact h3.elim
   ·rw[hrow]at h3;cases h3
   ·exact absurd h4 (Nz b)
 ·exact R.nt
 ·intro _
  show s.r.left=0
  unfold iq.left
  rw[hx,f2]
  rfl
theorem PW{s:af}{cur az:List Int}(I:Inv s cur az gq gq):s.E_/\ ∃cur' uN,Inv s.eG cur' uN gq gq/\Kept s s.eG/\ (s.qf=true->uN=az/\ (∀b∈cur,b∈cur')/\s.eG.aG=true):=by
 have hok:s.o.Ok:=I.lay.ov.ok
 have hrl:s.row.length<=1000000:=I.mv.row
 have key:(match s.which with
  | .none=>True
  | .row=>I64 s.h_/\ ((s.o.aH s.h_).isSome=true->s.mY.qm s.h_)
  | .buf x=>I64 x/\ (s.fV.iV x=true->(s.fV.dL x).qm x)
  | .card n=>(s.fB n).Bj (s.bF n)
  | .scan=>I64 s.scan/\s.qm s.scan
  | .finish=>True)/\ ∃cur' uN,Inv (s.stepOf s.which) cur' uN gq gq/\Kept s (s.stepOf s.which)/\ (og s.which=true->uN=az/\ (∀b∈cur,b∈cur')/\ (s.stepOf s.which).aG=true):=by
  unfold af.which
  by_cases hmv:s.aG=false
  ·rw[if_pos hmv]
   exact⟨trivial,cur,az,I,⟨rfl,rfl,rfl,rfl⟩,fun h=>by cases h⟩
  ·rw[if_neg hmv]
   have G6:s.aG=true:=by simpa using hmv
   by_cases hr:0<s.row.length
   ·rw[if_pos hr]
    obtain⟨h1,c1,I2,m,q1,q2,q3,q4,q5,q6⟩:=K_ I G6
    refine⟨⟨?_,h1⟩,c1,az,I2,⟨q1,q2,q3,q4⟩,fun _=>⟨rfl,m,q5.trans G6⟩⟩
    have hm:s.h_∈s.row:=by
     unfold af.h_
     cases hq:s.row with
     |nil=>rw[hq]at hr;simp at hr
     |cons x l=>simp
    have:=I.hds.ri _ hm
    exact⟨by omega,by omega⟩
   ·rw[if_neg hr]
    cases hx:s.r.tb.list with
    |cons x l=>
     obtain⟨h1,c1,I2,m,K,q5,q6⟩:=La I G6 hx
     refine⟨⟨?_,h1⟩,c1,az,I2,K,fun _=>⟨rfl,m,q5⟩⟩
     exact I.rem.bi x (.inr (by rw[hx];simp))
    |nil=>
     cases hf:s.r.tc.first with
     |some n=>
      obtain⟨h1,c1,I2,m,K,q5,q6⟩:=G5 I G6 hx n
      exact⟨h1,c1,az,I2,K,fun _=>⟨rfl,m,q5⟩⟩
     |none=>
      by_cases hs:s.pR=true
      ·simp only[hs,if_true]
       obtain⟨hsc,c1,L,I2,_⟩:=BB I G6 hs
       refine⟨⟨?_,JG I G6 (.inl hsc)⟩,c1,az,I2,⟨L.C,L.t,L.parity,L.phase⟩,fun _=>⟨rfl,L.mono,L.aG.trans G6⟩⟩
       have:=I.lay.pos (.inl hsc)
       exact⟨by omega,by omega⟩
      ·simp only[hs]
       exact⟨trivial,cur,[],BD I G6 (by omega) hx hf hs,⟨rfl,rfl,rfl,rfl⟩,fun h=>by cases h⟩
 exact⟨⟨hok,hrl,key.1⟩,key.2⟩
end Go.Proofs.YtibemcgdmembeaaGreat
namespace Go.Proofs.YtibemcgdmembeaaGreat
open Go.RowKit
theorem BF{ws:List Int}: ∀{l:List Int},(∀a∈l,bH ws a=a)->oK ws l=0
 |[],_=>rfl
 |a::l,h=>by
  rw[l_,if_pos (h a (List.mem_cons_self ..)),BF (fun b hb=>h b (List.mem_cons_of_mem _ hb))]
  rfl
theorem zC: ∀{l:List Bool},jE l=0-> ∀i,l.getD i false=false
 |[],_,_=>rfl
 |b::l,h,i=>by
  unfold jE at h
  cases b
  ·cases i with
   |zero=>rfl
   |succ i=>
    refine zC (l:=l) ?_ i
    unfold jE
    simpa using h
  ·simp at h
theorem RU{s:af}(h:s.r.left=0)(b:Int): ¬s.dW b:=by
 unfold iq.left at h
 have h1:s.r.tb.list.length=0:=by omega
 have h2:jE s.r.tc.marks=0:=by omega
 rintro(h|h)
 ·rw[List.length_eq_zero_iff.1 h1]at h
  cases h
 ·unfold bz.marked at h
  rw[Bool.and_eq_true,zC h2]at h
  cases h.2
theorem sU{s:af}{cur az:List Int}{E F:Int->Prop}(I:Inv s cur az E F)(hmv:s.aG=false):az=[]/\s.y.ou=0/\s.row=[]/\s.r.left=0/\s.y.oM=true:=by
 have h1:=I.hds.nm hmv
 subst h1
 have h2:=I.lay.ro
 simp only[ig]at h2
 have h3:=I.hds.cp
 have h4:oK s.ws []=0:=rfl
 have h5:=I.hds.rl
 refine⟨rfl,by omega,List.length_eq_zero_iff.1 (by omega),I.refs.tn hmv, ?_⟩
 unfold aJ.oM
 rw[decide_eq_true_eq]
 omega
theorem vF{s:af}{cur az:List Int}(I:Inv s cur az gq gq)(hmv:s.aG=false):Inv s.begun [] cur gq gq:=by
 obtain⟨r1,r2,r3,r4,r5⟩:=sU I hmv
 subst r1
 obtain⟨l,H,R,RO⟩:=I
 obtain⟨n1,n2,n3,n4,n5,n6,n7,n8,n9,n10⟩:=l.nums
 have eR:s.begun.r=s.r.flip:=by
  show(if s.r.left=0 then s.r.flip else s.r)=_
  rw[if_pos r4]
 have ey:s.y.flip={s.y with now:= !s.y.now}:=by unfold aJ.flip;rw[if_pos r5]
 have yf:s.y.flip.cf=s.y.of/\s.y.flip.cu=s.y.ou/\s.y.flip.of=s.y.cf/\s.y.flip.ou=s.y.cu/\s.y.flip.f0=s.y.f0/\s.y.flip.f1=s.y.f1/\s.y.flip.u0=s.y.u0/\s.y.flip.u1=s.y.u1/\s.y.flip.words=s.y.words:=by
  rw[ey]
  obtain⟨a1,a2,a3,a4,a5,a6⟩:=s.y
  cases a6<;>simp[aJ.cf,aJ.cu,aJ.of,aJ.ou]
 obtain⟨y1,y2,y3,y4,y5,y6,y7,y8,y9⟩:=yf
 have Nz: ∀b,s.jH b->s.begun.dW b:=by
  intro b h
  unfold af.dW
  rw[eR]
  exact h
 have hnt: ∀b,(s.o.aH b).isSome=true->(ag s.ws b).aY=true->s.begun.dW b:=by
  intro b hb hn
  rcases R.nt b hb hn with h|h|h
  ·exact Nz b h
  ·exact absurd h (RU r4 b)
  ·exact h.elim
 obtain⟨c1,c2,c3,c4⟩:=RO.nc
 refine⟨⟨l.cf,l.ov,l.ob,l.ow,l.ol,y5.trans l.f0,y6.trans l.f1,y9.trans l.yw,by rw[show s.begun.y.u0=s.y.u0 from y7];exact l.u0,by rw[show s.begun.y.u1=s.y.u1 from y8];exact l.u1,l.wl, ?_, ?_,l.fit⟩,⟨H.par, ?_, ?_,H.Dw, ?_, ?_, ?_, ?_, ?_, ?_⟩,⟨?_, ?_, ?_, ?_, ?_⟩, ?_⟩
 ·show s.y.flip.cf=s.y.flip.cf+s.y.flip.cu
  omega
 ·show ig s.ws s.y.flip.of (s.y.flip.of+s.y.flip.ou) cur
  rw[y3,y4]
  exact l.rc
 ·intro b hb;cases hb
 ·intro b hb
  obtain⟨h1,h2,h3,h4⟩:=H.Dv b hb
  exact⟨h1,h2,h3, .inl h4⟩
 ·exact(BF fun b hb=>(H.Dv b hb).2.2.2).symm
 ·intro _
  show s.y.flip.ou-0<=s.y.flip.words-s.y.flip.cu
  have:=l.yw
  omega
 ·intro h;cases h
 ·intro _
  refine⟨Int.le_refl _, .inl ?_⟩
  show s.y.flip.cf=s.y.flip.cf+s.y.flip.cu
  omega
 ·exact Int.le_refl _
 ·intro b hb;cases hb
 ·intro b hb;cases hb
 ·intro b hb k k0 k1
  rcases R.rC b hb k k0 k1 with h|h|h|⟨h1,_⟩
  ·exact .inl h
  ·exact .inr (.inl h)
  ·exact .inr (.inr h)
  ·rw[hmv]at h1;cases h1
 ·intro b hb k k0 k1
  rcases R.rM b hb k k0 k1 with h|h|⟨h1,h2⟩|⟨h1,_⟩
  ·exact .inl h
  ·exact .inr (.inl h)
  ·refine .inr (.inr (.inr ⟨rfl,h1, .inr (.inr ?_)⟩))
   rcases h2 with h2|h2|h2
   ·exact h2.elim
   ·exact⟨h2,hnt b hb h2⟩
   ·rw[r3]at h2;cases h2
  ·rw[hmv]at h1;cases h1
 ·intro b hb hn
  exact .inr (.inl (hnt b hb hn))
 ·intro h;cases h
 ·have hp:=gX.pU l.cf.small
  have hmb:=qg (words:=s.C.pages*s.C.page) (card:=s.C.card) (by omega) (by omega) l.cf.c1
  refine⟨by rw[eR];exact RO.base,by rw[eR];exact RO.ws,by rw[eR];exact RO.size,by rw[eR];exact RO.most, ?_,by rw[eR];exact RO.nc, ?_, ?_⟩
  ·rw[eR]
   show s.r.base=_/\s.r.words=_/\s.r.size=_/\ ((List.replicate (bz.many s.r.words s.r.size).toNat false).length:Int)=_
   rw[List.length_replicate,RO.ws,RO.size]
   exact⟨RO.base,rfl,rfl,by show _=bz.many (s.C.pages*s.C.page) s.C.card;omega⟩
  ·intro x hx
   rw[eR]at hx
   rcases hx with hx|hx
   ·cases hx
   ·exact RO.bi x (.inl hx)
  ·rw[eR]
   have:=l.cf.b1
   exact⟨RO.most,RO.bm.1,this,RO.bm.2.2.1⟩
theorem Inv.PX{s:af}{cur az:List Int}{E F:Int->Prop}(I:Inv s cur az E F)(t:List Int):Inv {s with t:=t} cur az E F:=by
 obtain⟨l,H,R,RO⟩:=I
 exact⟨⟨l.cf,l.ov,l.ob,l.ow,l.ol,l.f0,l.f1,l.yw,l.u0,l.u1,l.wl,l.rc,l.ro,l.fit⟩,⟨H.par,H.Dv,H.Fg,H.Dw,H.cp,H.rm,H.nm,H.sc,H.rl,H.ri⟩,⟨R.rC,R.rO,R.rM,R.nt,R.tn⟩,RO.same rfl rfl⟩
theorem sV{l:List Int}{i v x:Int}(h:x∈bP l i v):x∈l∨x=v:=by
 unfold bP at h
 split at h
 ·exact List.mem_or_eq_of_mem_set h
 ·exact .inl h
theorem nS(l:List Int)(i v:Int):(bP l i v).length=l.length:=by
 unfold bP
 split<;>simp
theorem wU{l:List Int}{i:Nat}{v:Int}(hi:i<l.length)(j:Nat):(bP l i v).getD j 0=if j=i then v else l.getD j 0:=by
 have e:bP l (i:Int) v=l.set i v:=by
  unfold bP bY
  rw[if_pos (by simp;omega)]
  simp
 rw[e]
 simp only[List.getD_eq_getElem?_getD]
 rw[List.getElem?_set]
 by_cases h:i=j
 ·subst h
  simp[hi]
 ·rw[if_neg h,if_neg (fun e=>h e.symm)]
theorem qx{s:af}{az cur:List Int}(I:Inv s cur az gq gq)(hmv:s.aG=true)(ht: ∀x∈s.t,b_ s cur az x): ∀k:Nat,k<=s.t.length->
  ∃cur',Inv (s.handles s.t k) cur' az gq gq/\ (∀b∈cur,b∈cur')/\ (s.handles s.t k).C=s.C/\ (s.handles s.t k).parity=s.parity/\ (s.handles s.t k).phase=s.phase/\ (s.handles s.t k).aG=true/\ (s.handles s.t k).ws.length=s.ws.length/\ (s.handles s.t k).t.length=s.t.length/\
  (∀j,j<k->bT (s.handles s.t k) cur' ((s.handles s.t k).t.getD j 0))/\ (∀j,k<=j->(s.handles s.t k).t.getD j 0=s.t.getD j 0)/\ (k<s.t.length->(s.handles s.t k).EZ (s.t.getD k 0))
 |0,_=>by
  refine⟨cur,I,fun _ h=>h,rfl,rfl,rfl,hmv,rfl,rfl,fun j h=>absurd h (by omega),fun _ _=>rfl,fun h=> ?_⟩
  refine I.Vo hmv (ht _ ?_)
  rw[List.getD_eq_getElem?_getD,List.getElem?_eq_getElem h]
  exact List.getElem_mem h
 |k+1,hk=>by
  obtain⟨c1,I1,m1,a1,a2,a3,a4,a5,a6,a7,a8,a9⟩:=qx I hmv ht k (by omega)
  have lift: ∀{s':af} {cur':List Int} {x:Int},s'.C=s.C->s'.ws.length=s.ws.length->(∀b∈cur,b∈cur')->b_ s cur az x->b_ s' cur' az x:=by
   intro s' cur' x h1 h2 h3 h
   rcases h with h|h|h|h
   ·exact .inl h
   ·exact .inr (.inl (by unfold bV at h⊢;rw[h1,h2];exact h))
   ·exact .inr (.inr (.inl (h3 x h)))
   ·exact .inr (.inr (.inr h))
  have hmem: ∀j,j<s.t.length->s.t.getD j 0∈s.t:=by
   intro j hj
   rw[List.getD_eq_getElem?_getD,List.getElem?_eq_getElem hj]
   exact List.getElem_mem hj
  obtain⟨c2,I2,M⟩:=GX I1 a4 (lift a1 a5 m1 (ht _ (hmem k (by omega))))
  have e1:s.handles s.t (k+1)={ (s.handles s.t k).move (s.t.getD k 0)with t:=bP ((s.handles s.t k).move (s.t.getD k 0)).t k ((s.handles s.t k).dA (s.t.getD k 0))}:=rfl
  have I3:=I2.PX (bP ((s.handles s.t k).move (s.t.getD k 0)).t k ((s.handles s.t k).dA (s.t.getD k 0)))
  rw[<-e1]at I3
  have eC:(s.handles s.t (k+1)).C=s.C:=M.C.trans a1
  have eW:(s.handles s.t (k+1)).ws.length=s.ws.length:=M.wl.trans a5
  have eM:(s.handles s.t (k+1)).aG=true:=M.aG.trans a4
  have eT:(s.handles s.t (k+1)).t=bP ((s.handles s.t k).t) k ((s.handles s.t k).dA (s.t.getD k 0)):=by
   rw[e1]
   show bP ((s.handles s.t k).move (s.t.getD k 0)).t k _=_
   rw[M.t]
  have hg:=fun j=>wU (l:=(s.handles s.t k).t) (i:=k) (v:=(s.handles s.t k).dA (s.t.getD k 0)) (by omega) j
  refine⟨c2,I3,fun b h=>M.mono b (m1 b h),eC,M.parity.trans a2,M.phase.trans a3,eM,eW,by rw[eT,nS];exact a6, ?_, ?_, ?_⟩
  ·intro j hj
   rw[eT,hg]
   by_cases e:j=k
   ·rw[if_pos e]
    exact bT.mono (by rw[eC,M.C,a1]) (by rw[eW,M.wl,a5]) (fun _ h=>h) M.res
   ·rw[if_neg e]
    exact bT.mono (by rw[eC,a1]) (by rw[eW,a5]) M.mono (a7 j (by omega))
  ·intro j hj
   rw[eT,hg,if_neg (by omega)]
   exact a8 j (by omega)
  ·intro h
   exact I3.Vo eM (lift eC eW (fun b h=>M.mono b (m1 b h)) (ht _ (hmem _ h)))
def iy(s:af)(cur:List Int):Prop:= ∀x∈s.t,bT s cur x
theorem Ee{s:af}{cur az:List Int}(I:Inv s cur az gq gq)(ht:iy s cur):s.Py/\ ∃cur' uN,Inv s.eY cur' uN gq gq/\iy s.eY cur'/\s.eY.C=s.C/\s.eY.parity=s.parity/\s.eY.phase=s.phase/\s.eY.t.length=s.t.length/\s.eY.aG=true:=by
 cases hmv:s.aG with
 |true=>
  have e0:s.jh=false:=by simp[af.jh,hmv]
  have e1:s.eY=s:=by unfold af.eY;rw[if_neg (by rw[e0];decide)]
  rw[e1]
  exact⟨fun h=>(by rw[e0]at h;cases h),cur,az,I,ht,rfl,rfl,rfl,rfl,hmv⟩
 |false=>
  obtain⟨r1,r2,r3,r4,r5⟩:=sU I hmv
  have e0:s.jh=true:=by simp[af.jh,hmv,r5]
  have e1:s.eY=s.begun.handles s.t s.t.length:=by unfold af.eY;rw[if_pos e0]
  have B:=vF I hmv
  have ht2: ∀x∈s.begun.t,b_ s.begun [] cur x:=by
   intro x hx
   rcases ht x hx with h|h|h
   ·exact .inl h
   ·exact .inr (.inl h)
   ·exact .inr (.inr (.inr h))
  refine⟨fun _ k hk=> ?_, ?_⟩
  ·obtain⟨_,_,_,_,_,_,_,_,_,_,_,a9⟩:=qx B rfl ht2 k (Nat.le_of_lt hk)
   exact a9 hk
  ·obtain⟨c1,I1,m1,a1,a2,a3,a4,a5,a6,a7,a8,a9⟩:=qx B rfl ht2 s.t.length (Nat.le_refl _)
   rw[e1]
   refine⟨c1,cur,I1, ?_,a1,a2,a3,a6,a4⟩
   intro x hx
   obtain⟨j,hj,rfl⟩:=List.getElem_of_mem hx
   have h6:(s.begun.handles s.t s.t.length).t.length=s.t.length:=a6
   have:bT (s.begun.handles s.t s.t.length) c1 ((s.begun.handles s.t s.t.length).t.getD j 0):=a7 j (by omega)
   rw[List.getD_eq_getElem?_getD,List.getElem?_eq_getElem hj]at this
   exact this
end Go.Proofs.YtibemcgdmembeaaGreat
namespace Go.Proofs.YtibemcgdmembeaaGreat
open Go.RowKit
theorem Inv.words{s:af}{cur az:List Int}{E F:Int->Prop}(I:Inv s cur az E F)(ws':List Int)(hl:ws'.length=s.ws.length)
  (h: ∀b,gQ s cur az b->rd ws' b=rd s.ws b/\bH ws' b=bH s.ws b/\ ∀k:Int,0<=k->k<(ag s.ws b).ptrs->aQ ws' b k=aQ s.ws b k):Inv {s with ws:=ws'} cur az E F:=by
 obtain⟨l,H,R,RO⟩:=I
 have hd: ∀b,gQ s cur az b->ag ws' b=ag s.ws b:=fun b hb=>by rw[dX,dX,(h b hb).1]
 have hC: ∀b,bV {s with ws:=ws'} b↔bV s b:=fun b=>by unfold bV;simp only[hl]
 refine⟨⟨l.cf,l.ov,l.ob,l.ow,l.ol,l.f0,l.f1,l.yw,l.u0,l.u1,by rw[hl];exact l.wl, ?_, ?_, ?_⟩,⟨H.par, ?_, ?_, ?_, ?_,H.rm,H.nm,H.sc,H.rl,H.ri⟩,⟨?_, ?_, ?_, ?_,R.tn⟩,RO.same rfl rfl⟩
 ·exact l.rc.frame fun b hb=>by rw[hd b (.inl hb)]
 ·exact l.ro.frame fun b hb=>by rw[hd b (.inr (.inl hb))]
 ·intro b z hz
  show z=cellOf s.o.words (ag ws' b).words
  rw[hd b (.inr (.inr (by rw[hz];rfl)))]
  exact l.fit b z hz
 ·intro b hb
  show lq (rd ws' b)=true/\ (ag ws' b).old=false/\ (ag ws' b).aY=false/\bH ws' b=b
  have hb2:gQ s cur az b:= .inl hb
  rw[(h b hb2).1,(h b hb2).2.1,hd b hb2]
  exact H.Dv b hb
 ·intro b hb
  show lq (rd ws' b)=true/\ (ag ws' b).old=false/\ (ag ws' b).aY=false/\ (bH ws' b=b∨bH ws' b∈cur∨bV {s with ws:=ws'} (bH ws' b))
  have hb2:gQ s cur az b:= .inr (.inl hb)
  rw[(h b hb2).1,(h b hb2).2.1,hd b hb2,hC]
  exact H.Fg b hb
 ·intro b hb
  show lq (rd ws' b)=true/\ (ag ws' b).old=true/\bH ws' b=b
  have hb2:gQ s cur az b:= .inr (.inr hb)
  rw[(h b hb2).1,(h b hb2).2.1,hd b hb2]
  exact H.Dw b hb
 ·show s.copied=oK ws' az
  rw[H.cp]
  exact(mg fun b hb=>⟨(h b (.inr (.inl hb))).2.1,by rw[hd b (.inr (.inl hb))]⟩).symm
 ·intro b hb k k0 k1
  have hb2:gQ s cur az b:= .inl hb
  have k1':k<(ag ws' b).ptrs:=k1
  rw[hd b hb2]at k1'
  show Dx _ cur az b (aQ ws' b k)
  rw[(h b hb2).2.2 k k0 k1']
  rcases R.rC b hb k k0 k1' with h|h|h|h
  ·exact .inl h
  ·exact .inr (.inl ((hC _).2 h))
  ·exact .inr (.inr (.inl h))
  ·exact .inr (.inr (.inr h))
 ·intro b hb k k0 k1
  have hb2:gQ s cur az b:= .inr (.inl hb)
  have k1':k<(ag ws' b).ptrs:=k1
  rw[hd b hb2]at k1'
  show Dy _ az (aQ ws' b k)
  rw[(h b hb2).2.2 k k0 k1']
  rcases R.rO b hb k k0 k1' with h|h|h
  ·exact .inl h
  ·exact .inr (.inl ((hC _).2 h))
  ·exact .inr (.inr h)
 ·intro b hb k k0 k1
  have hb2:gQ s cur az b:= .inr (.inr hb)
  have k1':k<(ag ws' b).ptrs:=k1
  rw[hd b hb2]at k1'
  show aQ ws' b k=0∨bV {s with ws:=ws'} (aQ ws' b k)∨(aQ ws' b k∈cur/\ (E b∨(ag ws' b).aY=true∨b∈s.row))∨(s.aG=true/\aQ ws' b k∈az/\ (E b∨b∈s.row∨((ag ws' b).aY=true/\s.dW b)))
  rw[hC,hd b hb2,(h b hb2).2.2 k k0 k1']
  exact R.rM b hb k k0 k1'
 ·intro b hb hn
  have hn':(ag ws' b).aY=true:=hn
  rw[hd b (.inr (.inr hb))]at hn'
  exact R.nt b hb hn'
theorem Inv.PY{s:af}{cur az:List Int}{E F E' F':Int->Prop}(I:Inv s cur az E F){a:Int}(he: ∀b,b≠a->E b->E' b)(hf: ∀b,F b->F' b)
  (hr:(s.o.aH a).isSome=true-> ∀k:Int,0<=k->k<(ag s.ws a).ptrs->JD s cur az E' a (aQ s.ws a k)):Inv s cur az E' F':=by
 refine⟨I.lay,I.hds,⟨I.refs.rC,I.refs.rO, ?_, ?_,I.refs.tn⟩,I.rem⟩
 ·intro b hb k k0 k1
  by_cases e:b=a
  ·subst e
   exact hr hb k k0 k1
  ·rcases I.refs.rM b hb k k0 k1 with h|h|⟨h1,h2⟩|⟨h1,h2,h3⟩
   ·exact .inl h
   ·exact .inr (.inl h)
   ·exact .inr (.inr (.inl ⟨h1,h2.elim (fun h=> .inl (he b e h)) .inr⟩))
   ·exact .inr (.inr (.inr ⟨h1,h2,h3.elim (fun h=> .inl (he b e h)) .inr⟩))
 ·intro b hb hnb
  rcases I.refs.nt b hb hnb with h|h|h
  ·exact .inl h
  ·exact .inr (.inl h)
  ·exact .inr (.inr (hf b h))
theorem RV{s:af}{cur az:List Int}(I:Inv s cur az gq gq){a k T:Int}(ha:a∈cur∨(s.o.aH a).isSome=true)(k0:0<=k)(k1:k<(ag s.ws a).ptrs)(hT:bT s cur T):
  Inv (if s.y.isIn T then({s with ws:=iQ s.ws (place a k) (u64 T)}:af).note a else {s with ws:=iQ s.ws (place a k) (u64 T)}) cur az gq gq:=by
 have I1:Inv s cur az (fun b=>b=a) gq:=I.weak (fun b h=>h.elim) (fun b h=>h)
 obtain⟨I2,r1,r2,r3,r4,r5⟩:=kN I1 (a:=a) (ha.elim .inl (fun h=> .inr ⟨h,rfl⟩)) k0 k1 hT
 have GV:gQ s cur az a:=ha.elim .inl (fun h=> .inr (.inr h))
 obtain⟨p1,p2,p3,p4⟩:=I.lay.pos GV
 obtain⟨b1,b2,b3,b4,b5⟩:=aA s.ws a
 generalize hws:iQ s.ws (place a k) (u64 T)=ws' at*
 have hlen:ws'.length=s.ws.length:=by rw[<-hws,iC]
 have hC: ∀b,bV {s with ws:=ws'} b↔bV s b:=fun b=>by unfold bV;simp only[hlen]
 have hother: ∀j:Int,0<=j->j<(ag s.ws a).ptrs->j≠k->aQ ws' a j=aQ s.ws a j:=by
  intro j j0 j1 jk
  rw[dR (by omega) p3 j0 (by omega),dR (by omega) p3 j0 (by omega),r5 j j0 (by omega) jk]
 by_cases hin:s.y.isIn T=true
 ·rw[if_pos hin]
  have hTc:T∈cur:=(hT.isIn I.lay).1 hin
  rcases ha with hc|ho
  ·rw[pW I2 hc]
   refine I2.PY (a:=a) (fun b hb h=>absurd h hb) (fun b h=>h) (fun h=> ?_)
   exact absurd (.inr (I.lay.kC h)) (I.lay.Ak hc)
  ·obtain⟨I3,n1,n2,n3,n4,n5,n6,n7⟩:=rQ I2 (a:=a) ho
   obtain⟨m1,m2,m3,m4,m5,m6,m7,m8,m9,m10,m11,m12,m13⟩:=jm ({s with ws:=ws'}:af) a
   have WH:gQ ({s with ws:=ws'}:af) cur az a:= .inr (.inr ho)
   have hp:(ag (({s with ws:=ws'}:af).note a).ws a).ptrs=(ag s.ws a).ptrs:=by
    rw[(n4 a WH).2.1]
    show(ag ws' a).ptrs=_
    rw[r3]
   have hI3: ∀b,bV (({s with ws:=ws'}:af).note a) b↔bV s b:=fun b=>by
    rw[<-hC b]
    unfold bV
    rw[n2,m1]
   refine I3.PY (a:=a) (fun b hb h=>absurd h hb) (fun b h=>h) (fun _ j j0 j1=> ?_)
   rw[hp]at j1
   have hre:aQ (({s with ws:=ws'}:af).note a).ws a j=aQ ws' a j:=n3 a WH j j0 (by show j<(ag ws' a).ptrs;rw[r3];exact j1)
   rw[hre]
   by_cases e:j=k
   ·subst e
    rw[r1]
    exact .inr (.inr (.inl ⟨hTc, .inr (.inl n1)⟩))
   ·rw[hother j j0 j1 e]
    rcases I.refs.rM a ho j j0 j1 with h|h|⟨h1,h2⟩|⟨h1,h2,h3⟩
    ·exact .inl h
    ·exact .inr (.inl ((hI3 _).2 h))
    ·exact .inr (.inr (.inl ⟨h1, .inr (.inl n1)⟩))
    ·refine .inr (.inr (.inr ⟨by rw[m5];exact h1,h2, ?_⟩))
     rcases h3 with h3|h3|⟨h3,h4⟩
     ·exact h3.elim
     ·exact .inr (.inl (by rw[m8];exact h3))
     ·exact .inr (.inr ⟨n1,(n7 a).2 h4⟩)
 ·rw[if_neg hin]
  have hTc:T∉cur:=fun h=>hin ((hT.isIn I.lay).2 h)
  refine I2.PY (a:=a) (fun b hb h=>absurd h hb) (fun b h=>h) (fun ho j j0 j1=> ?_)
  have j1':j<(ag ws' a).ptrs:=j1
  rw[r3]at j1'
  show aQ ws' a j=0∨bV {s with ws:=ws'} (aQ ws' a j)∨(aQ ws' a j∈cur/\ (gq a∨(ag ws' a).aY=true∨a∈s.row))∨(s.aG=true/\aQ ws' a j∈az/\ (gq a∨a∈s.row∨((ag ws' a).aY=true/\s.dW a)))
  rw[hC,r3]
  by_cases e:j=k
  ·subst e
   rw[r1]
   rcases hT with h|h|h
   ·exact .inl h
   ·exact .inr (.inl h)
   ·exact absurd h hTc
  ·rw[hother j j0 j1' e]
   exact I.refs.rM a ho j j0 j1'
theorem PZ{s:af}{cur az:List Int}{E F:Int->Prop}(I:Inv s cur az E F){a k v:Int}(ha:gQ s cur az a)(k0:(ag s.ws a).ptrs<=k)(k1:k<(ag s.ws a).size):Inv {s with ws:=iQ s.ws (place a k) v} cur az E F:=by
 obtain⟨p1,p2,p3,p4⟩:=I.lay.pos ha
 obtain⟨b1,b2,b3,b4,b5⟩:=aA s.ws a
 rw[oH (by omega) p3 (by omega) (by omega)]
 have hrd:=fun j=>vZ (ws:=s.ws) (i:=a+2+k) (by omega) (by omega) v j
 refine I.words _ (iC ..) ?_
 intro b hb
 obtain⟨q1,q2,q3,q4⟩:=I.lay.pos hb
 obtain⟨c1,c2,c3,c4,c5⟩:=aA s.ws b
 by_cases e:b=a
 ·subst e
  refine⟨by rw[hrd,if_neg (by omega)],by rw[f_ (by omega) q3,f_ (by omega) q3,hrd,if_neg (by omega)],fun j j0 j1=> ?_⟩
  rw[dR (by omega) q3 j0 (by omega),dR (by omega) q3 j0 (by omega),hrd,if_neg (by omega)]
 ·have:=I.lay.apart hb ha e
  refine⟨by rw[hrd,if_neg (by omega)],by rw[f_ (by omega) q3,f_ (by omega) q3,hrd,if_neg (by omega)],fun j j0 j1=> ?_⟩
  rw[dR (by omega) q3 j0 (by omega),dR (by omega) q3 j0 (by omega),hrd,if_neg (by omega)]
end Go.Proofs.YtibemcgdmembeaaGreat
namespace Go.Proofs.YtibemcgdmembeaaGreat
open Go.RowKit
structure RX(s:af)(cur az:List Int)(p c:Int)(s':af)(t:Int):Prop where
 inv:Inv s' (cur++[t]) az gq gq
 at':t=s.y.cf+s.y.cu
 new: ¬gQ s cur az t
 hd:ag s'.ws t=s.jG p c
 ref: ∀k:Int,0<=k->k<p+c->rd s'.ws (t+2+k)=0
 rest: ∀b,gQ s cur az b->Same s.ws s'.ws b (ag s.ws b).words
 C:s'.C=s.C
 parity:s'.parity=s.parity
 phase:s'.phase=s.phase
 aG:s'.aG=s.aG
 o:s'.o=s.o
 wl:s'.ws.length=s.ws.length
theorem NC{y:aJ}{n:Int}(h1:1<=n)(h2:n<=y.room):y.di n=y.cf+y.cu/\ (y.take n).cf=y.cf/\ (y.take n).cu=y.cu+n/\ (y.take n).of=y.of/\ (y.take n).ou=y.ou/\ (y.take n).f0=y.f0/\ (y.take n).f1=y.f1/\ (y.take n).words=y.words/\ ((y.take n).u0=y.u0∨(y.take n).u0=y.cu+n)/\ ((y.take n).u1=y.u1∨(y.take n).u1=y.cu+n):=by
 have hok:y.iZ n=true:=by simp[aJ.iZ,h1,h2]
 obtain⟨a1,a2,a3,a4,a5,a6⟩:=y
 cases a6<;>simp[aJ.di,aJ.take,hok,aJ.cf,aJ.cu,aJ.of,aJ.ou]
theorem P5{s:af}{cur az:List Int}(I:Inv s cur az gq gq){p c:Int}(hp0:0<=p)(hc0:0<=c)(hpc:p+c<=64)(hr:s.qK (p+c+2)=true)(t':List Int)(d':Pn):
  RX s cur az p c {s with ws:=iT s.ws (s.y.di (p+c+2)) (s.jG p c),y:=s.y.take (p+c+2),t:=t',done:=d'} (s.y.di (p+c+2)):=by
 obtain⟨l,H,R,RO⟩:=I
 obtain⟨n1,n2,n3,n4,n5,n6,n7,n8,n9,n10⟩:=l.nums
 have hk:0<=s.kept/\ (s.aG=true->s.kept=s.y.ou-s.copied):=by
  unfold af.kept
  have:=rP l.ro
  have:=H.cp
  split
  ·exact⟨by omega,fun _=>rfl⟩
  ·rename_i h
   exact⟨Int.le_refl _,fun h'=>absurd h' h⟩
 have hroom:s.kept<=s.y.room-(p+c+2):=by
  unfold af.qK at hr
  rwa[decide_eq_true_eq]at hr
 obtain⟨t1,t2,t3,t4,t5,t6,t7,t8,t9,t10⟩:=NC (y:=s.y) (n:=p+c+2) (by omega) (by omega)
 have hyw:=l.yw
 have hrm:s.y.room=s.C.aU-s.y.cu:=by unfold aJ.room;omega
 have hu0:=l.u0
 have hu1:=l.u1
 obtain⟨t,ht⟩: ∃t,t=s.y.di (p+c+2):=⟨_,rfl⟩
 have hg:(s.jG p c).Good:=by
  have:=H.par
  unfold af.jG Hd.Good
  simp only
  omega
 have hw:(s.jG p c).words=p+c+2:=rfl
 rw[<-ht]at t1⊢
 have hrd:=fun j=>RH (ws:=s.ws) (i:=t) hg (by omega) (by rw[hw];omega) (by omega) j
 rw[hw]at hrd
 have hlen:(iT s.ws t (s.jG p c)).length=s.ws.length:=by
  unfold iT
  split
  ·rename_i h
   rw[kL]at h
   have:=Hd.rG hg
   rw[xX,iC,xW]
  ·rfl
 generalize hws:iT s.ws t (s.jG p c)=ws' at*
 have hIO: ∀b,gQ s cur az b->b+(ag s.ws b).words<=t∨t+(p+c+2)<=b:=by
  intro b hb
  rcases hb with h|h|h
  ·have:=l.lT h;omega
  ·have:=l.oI h;omega
  ·have:=l.qp h;omega
 have TV: ∀b,gQ s cur az b->Same s.ws ws' b (ag s.ws b).words:=by
  intro b hb q q0 q1
  have:=hIO b hb
  have:=(aA s.ws b).1
  rw[hrd,if_neg (by omega),if_neg (by omega),if_neg (by omega)]
 have sm: ∀b,gQ s cur az b->rd ws' b=rd s.ws b/\ag ws' b=ag s.ws b/\bH ws' b=bH s.ws b/\ ∀k:Int,0<=k->k<(ag s.ws b).ptrs->aQ ws' b k=aQ s.ws b k:=by
  intro b hb
  have S:=TV b hb
  obtain⟨p1,p2,p3,p4⟩:=l.pos hb
  obtain⟨b1,b2,b3,b4,b5⟩:=aA s.ws b
  exact⟨S b (by omega) (by omega),S.head (by omega),S.way (by omega) (by omega) p3,fun k k0 k1=>S.ref (by omega) p3 k0 (by omega) (by omega)⟩
 have rdT:rd ws' t=(s.jG p c).enc:=by rw[hrd,if_pos rfl]
 have JC:ag ws' t=s.jG p c:=by rw[dX,rdT,Aj hg]
 have wyT:bH ws' t=t:=by
  rw[f_ (by omega) (by omega),hrd,if_neg (by omega),if_pos rfl]
  exact pq ⟨by omega,by omega⟩
 have Nv: ∀k:Int,0<=k->k<p+c->rd ws' (t+2+k)=0:=by
  intro k k0 k1
  rw[hrd,if_neg (by omega),if_neg (by omega),if_pos (by omega)]
 have hnew: ¬gQ s cur az t:=by
  intro h
  have:=hIO t h
  have:=(aA s.ws t).1
  omega
 have pz: ∀b,b∈cur++[t]↔b∈cur∨b=t:=fun b=>by simp
 have hC: ∀b,bV {s with ws:=ws',y:=s.y.take (p+c+2),t:=t',done:=d'} b↔bV s b:=fun b=>by unfold bV;simp only[hlen]
 have hsT:(s.jG p c).ptrs=p:=rfl
 refine⟨⟨⟨l.cf,l.ov,l.ob,l.ow,l.ol,t6.trans l.f0,t7.trans l.f1,t8.trans l.yw, ?_, ?_,by rw[hlen];exact l.wl, ?_, ?_, ?_⟩,⟨H.par, ?_, ?_, ?_, ?_, ?_,H.nm, ?_,H.rl,H.ri⟩,⟨?_, ?_, ?_, ?_,R.tn⟩,RO.same rfl rfl⟩,t1,hnew,JC,Nv,TV,rfl,rfl,rfl,rfl,rfl,hlen⟩
 ·show 0<=(s.y.take (p+c+2)).u0/\ (s.y.take (p+c+2)).u0<=s.C.aU
  omega
 ·show 0<=(s.y.take (p+c+2)).u1/\ (s.y.take (p+c+2)).u1<=s.C.aU
  omega
 ·show ig ws' (s.y.take (p+c+2)).cf ((s.y.take (p+c+2)).cf+(s.y.take (p+c+2)).cu) (cur++[t])
  have h1:ig ws' s.y.cf t cur:=by
   rw[t1]
   exact l.rc.frame fun b hb=>by rw[(sm b (.inl hb)).2.1]
  have h2:=h1.snoc
  rw[JC,hw]at h2
  rw[t2,t3,show s.y.cf+(s.y.cu+(p+c+2))=t+(p+c+2) by omega]
  exact h2
 ·show ig ws' (s.y.take (p+c+2)).of ((s.y.take (p+c+2)).of+(s.y.take (p+c+2)).ou) az
  rw[t4,t5]
  exact l.ro.frame fun b hb=>by rw[(sm b (.inr (.inl hb))).2.1]
 ·intro b z hz
  show z=cellOf s.o.words (ag ws' b).words
  rw[(sm b (.inr (.inr (by rw[hz];rfl)))).2.1]
  exact l.fit b z hz
 ·intro b hb
  show lq (rd ws' b)=true/\ (ag ws' b).old=false/\ (ag ws' b).aY=false/\bH ws' b=b
  rcases(pz b).1 hb with hb|rfl
  ·obtain⟨q1,q2,q3,_⟩:=sm b (.inl hb)
   rw[q1,q2,q3]
   exact H.Dv b hb
  ·rw[rdT,JC]
   exact⟨rJ hg,rfl,rfl,wyT⟩
 ·intro b hb
  show lq (rd ws' b)=true/\ (ag ws' b).old=false/\ (ag ws' b).aY=false/\ (bH ws' b=b∨bH ws' b∈cur++[t]∨(1+2*s.C.aU<=bH ws' b/\bH ws' b<ws'.length))
  obtain⟨q1,q2,q3,_⟩:=sm b (.inr (.inl hb))
  obtain⟨h1,h2,h3,h4⟩:=H.Fg b hb
  rw[q1,q2,q3,hlen]
  exact⟨h1,h2,h3,h4.elim .inl (fun h=>h.elim (fun h=> .inr (.inl ((pz _).2 (.inl h)))) (fun h=> .inr (.inr h)))⟩
 ·intro b hb
  show lq (rd ws' b)=true/\ (ag ws' b).old=true/\bH ws' b=b
  obtain⟨q1,q2,q3,_⟩:=sm b (.inr (.inr hb))
  rw[q1,q2,q3]
  exact H.Dw b hb
 ·show s.copied=oK ws' az
  rw[H.cp]
  exact(mg fun b hb=>by obtain⟨q1,q2,q3,_⟩:=sm b (.inr (.inl hb));exact⟨q3,by rw[q2]⟩).symm
 ·intro hm
  have hm':s.aG=true:=hm
  have:=hk.2 hm'
  show(s.y.take (p+c+2)).ou-s.copied<=(s.y.take (p+c+2)).words-(s.y.take (p+c+2)).cu
  omega
 ·intro hm
  obtain⟨c1,c2⟩:=H.sc hm
  show(s.y.take (p+c+2)).cf<=s.scan/\ (s.scan=(s.y.take (p+c+2)).cf+(s.y.take (p+c+2)).cu∨s.scan∈cur++[t])
  refine⟨by omega, .inr ?_⟩
  rcases c2 with h|h
  ·exact(pz _).2 (.inr (by omega))
  ·exact(pz _).2 (.inl h)
 ·intro b hb k k0 k1
  have k1':k<(ag ws' b).ptrs:=k1
  show Dx _ (cur++[t]) az b (aQ ws' b k)
  rcases(pz b).1 hb with hb|rfl
  ·obtain⟨q1,q2,q3,q4⟩:=sm b (.inl hb)
   rw[q2]at k1'
   rw[q4 k k0 k1']
   rcases R.rC b hb k k0 k1' with h|h|h|h
   ·exact .inl h
   ·exact .inr (.inl ((hC _).2 h))
   ·exact .inr (.inr (.inl ((pz _).2 (.inl h))))
   ·exact .inr (.inr (.inr h))
  ·left
   rw[JC,hsT]at k1'
   rw[dR (by omega) (by omega) k0 (by omega),Nv k k0 (by omega)]
   exact pq ⟨by omega,by omega⟩
 ·intro b hb k k0 k1
  have k1':k<(ag ws' b).ptrs:=k1
  show Dy _ az (aQ ws' b k)
  obtain⟨q1,q2,q3,q4⟩:=sm b (.inr (.inl hb))
  rw[q2]at k1'
  rw[q4 k k0 k1']
  rcases R.rO b hb k k0 k1' with h|h|h
  ·exact .inl h
  ·exact .inr (.inl ((hC _).2 h))
  ·exact .inr (.inr h)
 ·intro b hb k k0 k1
  have k1':k<(ag ws' b).ptrs:=k1
  obtain⟨q1,q2,q3,q4⟩:=sm b (.inr (.inr hb))
  rw[q2]at k1'
  show aQ ws' b k=0∨bV {s with ws:=ws',y:=s.y.take (p+c+2),t:=t',done:=d'} (aQ ws' b k)∨(aQ ws' b k∈cur++[t]/\ (gq b∨(ag ws' b).aY=true∨b∈s.row))∨(s.aG=true/\aQ ws' b k∈az/\ (gq b∨b∈s.row∨((ag ws' b).aY=true/\s.dW b)))
  rw[hC,q2,q4 k k0 k1']
  rcases R.rM b hb k k0 k1' with h|h|⟨h1,h2⟩|h
  ·exact .inl h
  ·exact .inr (.inl h)
  ·exact .inr (.inr (.inl ⟨(pz _).2 (.inl h1),h2⟩))
  ·exact .inr (.inr (.inr h))
 ·intro b hb hn
  have hn':(ag ws' b).aY=true:=hn
  rw[(sm b (.inr (.inr hb))).2.1]at hn'
  exact R.nt b hb hn'
theorem count_none(n:Nat):jE (List.replicate n false)=0:=by
 unfold jE
 induction n with
 |zero=>rfl
 |succ n ih=>simp[List.replicate_succ]
theorem RY{c:gX}(h:c.Fits):Inv (gJ c) [] [] gq gq:=by
 have hp:=gX.pU h.small
 have hn1:=h.n1
 have hn2:=h.n2
 have hm:c.jv=1+2*c.aU:=rfl
 have hmb:=qg (words:=c.pages*c.page) (card:=c.card) (by omega) (by omega) h.c1
 have hno: ∀a,(gJ c).o.aH a=none:=fun a=>zu (by omega) h.g1 h.g2 _ a
 have Vp: ∀a,((gJ c).o.aH a).isSome=true->False:=fun a ha=>by rw[hno]at ha;cases ha
 have TW:((fF c.jv (c.pages*c.page) c.card).marks.length:Int)=bz.many (c.pages*c.page) c.card:=by
  unfold fF
  simp only[List.length_replicate]
  omega
 refine⟨⟨h,Gx (by omega) h.g1 h.g2 _,rfl,rfl, ?_,rfl,rfl,rfl,⟨Int.le_refl _,by show(0:Int)<=c.aU;omega⟩,⟨Int.le_refl _,by show(0:Int)<=c.aU;omega⟩, ?_, ?_, ?_, ?_⟩,⟨.inl rfl, ?_, ?_, ?_,rfl, ?_,fun _=>rfl, ?_,Int.le_refl _, ?_⟩,⟨?_, ?_, ?_, ?_, ?_⟩,⟨rfl,rfl,rfl,rfl,⟨rfl,rfl,rfl,TW⟩,⟨rfl,rfl,rfl,TW⟩, ?_,⟨rfl,rfl,h.b1,h.b1⟩⟩⟩
 ·show((List.replicate c.pages.toNat yC).length:Int)=c.pages
  rw[List.length_replicate]
  have:=h.p1
  omega
 ·show((List.replicate c.words.toNat 0).length:Int)=c.words
  rw[List.length_replicate]
  have:c.words=c.jv+c.pages*c.page:=rfl
  omega
 ·show(1:Int)=1+0
  omega
 ·show(1+c.aU:Int)=1+c.aU+0
  omega
 ·intro a z hz
  rw[hno]at hz
  cases hz
 ·intro a ha;cases ha
 ·intro a ha;cases ha
 ·intro a ha;exact(Vp a ha).elim
 ·intro hh;cases hh
 ·intro hh;cases hh
 ·intro a ha;cases ha
 ·intro a ha;cases ha
 ·intro a ha;cases ha
 ·intro a ha;exact(Vp a ha).elim
 ·intro a ha;exact(Vp a ha).elim
 ·intro _
  show iq.left _=0
  have:=count_none (bz.many (c.pages*c.page) c.card).toNat
  show((([]:List Int).length:Nat):Int)+((jE (List.replicate (bz.many (c.pages*c.page) c.card).toNat false):Nat):Int)=0
  rw[this]
  rfl
 ·intro x hx
  rcases hx with hx|hx<;>cases hx
end Go.Proofs.YtibemcgdmembeaaGreat
