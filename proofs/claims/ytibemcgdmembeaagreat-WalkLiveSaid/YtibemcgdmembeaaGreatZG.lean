/- What Start of package major comes to. Conditions: a core whose parts are as New makes them. -/
import Derived.Test.YtibemcgdmembeaaGreatRows
import Derived.Test.YtibemcgdmembeaaGreatZD
import Derived.Test.YtibemcgdmembeaaGreatZB
import Derived.Laws.IdiomCopy
import Derived.Lib.SliceRun
import Derived.Test.YtibemcgdmembeaaGreatZE
set_option linter.unusedVariables false
set_option linter.unusedSimpArgs false
set_option maxRecDepth 100000
set_option maxHeartbeats 4000000
namespace Go.Proofs.YtibemcgdmembeaaGreat
open Go.RowKit
def af.kP(s:af)(a:Int):af:={s with ws:=iQ s.ws a {ag s.ws a with dh:=false}.enc}
def af.vS(s:af)(a:Int):Nat->af
 |0=>s
 |k+1=>(s.vS a k).mark (aQ (s.vS a k).ws a k)
def af.jJ(s:af)(a:Int):af:=if(ag s.ws a).dh=true then(s.kP a).vS a (s.bQ a)else s
def af.jB(s:af)(a:Int):Int:=if(ag s.ws a).dh=true then(ag s.ws a).words else 1
theorem Ho(s:af)(i:Int):(s.mark i).parity=s.parity:=by
 unfold af.mark
 split<;>rfl
theorem uP(s:af)(a:Int): ∀k,(s.vS a k).parity=s.parity
 |0=>rfl
 |k+1=>by
  show((s.vS a k).mark _).parity=_
  rw[Ho,uP s a k]
theorem DD(s:af)(a:Int):(s.jJ a).parity=s.parity:=by
 unfold af.jJ
 split
 ·rw[uP];rfl
 ·rfl
theorem jK(s:af)(a:Int):1<=s.jB a/\s.jB a<=66:=by
 obtain⟨g1,g2,_⟩:=dU (oU s.ws a)
 have:(ag s.ws a).words=(Ai (oU s.ws a)).size+2:=rfl
 unfold af.jB
 split<;>omega
theorem qO(pc:Nat)(L:aX)(s:af)(a:Int)(w:World)(h:Hp)(hi:In w h)(hc:ah pc L s h)(hpar:s.parity=0∨s.parity=1):
  Calls Tryz.prog 172 #[ptr pc, .int .i64 a] w fun e w'=>
   e= .returned (.int .i64 (s.jB a))/\ ∃h',ah pc L (s.jJ a) h'/\aj h h' w w':=by
 have hG:(ag s.ws a).Good:=dU _
 have hG0:=hG
 obtain⟨g1,g2,g3,g4,g5,g6,g7⟩:=hG
 have hH:=kY pc L s a w h hi hc
 cases hgr:(ag s.ws a).dh
 ·have e1:s.jB a=1:=by simp[af.jB,hgr]
  have e2:s.jJ a=s:=by simp[af.jJ,hgr]
  rw[e1,e2]
  generalize Wn:ag s.ws a=H at*
  obtain⟨x1,x2,x3,x4,x5,x6,x7⟩:=H
  simp only at hgr
  subst hgr
  clear e1 e2 hG0 Wn hc
  simp only[aF]at*
  simp only[ptr]at*
  go_enter Tryz.func172,Tryz.ntmps172
  go_wp2_with(go_at_call 59;refine Calls.mono hH ?_;rintro e w3 ⟨rfl,h3,c3,u3⟩;have U3:=Lib.hid (u3.alloc' (.cells #[.int .i64 x1, .int .i64 x2, .int .i64 x3, .int .i64 x4, .bool false, .bool x6, .bool x7] 92 (0,0)));have C3:=Lib.hid c3;clear u3 c3 hH)
  go_ret
  exact⟨rfl,h3,C3.out,U3.out.drop1⟩
 ·have e1:s.jB a=(ag s.ws a).words:=by simp[af.jB,hgr]
  have e2:s.jJ a=(s.kP a).vS a (s.bQ a):=by simp[af.jJ,hgr]
  rw[e1,e2]
  have hgd:Hd.Good {ag s.ws a with dh:=false}:=⟨g1,g2,g3,g4,g5,g6,g7⟩
  have hset:=fun W h (hW:In W h) (hc:ah pc L s h)=>pG pc L s a {ag s.ws a with dh:=false} hgd W h hW hc
  have hwx:=mM {ag s.ws a with dh:=false} hgd
  have hwo:Hid (Hd.words {ag s.ws a with dh:=false}=(ag s.ws a).words):=Lib.hid rfl
  obtain⟨p,hp⟩: ∃p:Nat,(ag s.ws a).ptrs=p:=⟨(ag s.ws a).ptrs.toNat,by omega⟩
  have hpp:s.bQ a=p:=by simp[af.bQ,hp]
  rw[hpp]
  have p64:p<=64:=by omega
  have TP:Hid (∀h,ah pc L {s with ws:=iQ s.ws a (Hd.enc {ag s.ws a with dh:=false})} h->ah pc L ((s.kP a).vS a 0) h):=Lib.hid fun _ hh=>hh
  have UR:=Lib.hid (fun s k W h (hW:In W h) (hc:ah pc L s h)=>uI pc L s a k W h hW hc)
  have yD:=Lib.hid (fun k r W h (hW:In W h) (hc:ah pc L ((s.kP a).vS a k) h) (hr:I64 r)=>yK pc L ((s.kP a).vS a k) r W h hW hc hr (by rw[uP];exact hpar))
  have HT:Hid (∀k,((s.kP a).vS a k).mark (aQ ((s.kP a).vS a k).ws a k)=(s.kP a).vS a (k+1)):=Lib.hid fun _=>rfl
  generalize hG:(s.kP a).vS a=G at*
  generalize Wn:ag s.ws a=H at*
  have HC:=Lib.hid hset
  clear hset e1 e2 hG0 Wn hc hpp hG hi
  obtain⟨x1,x2,x3,x4,x5,x6,x7⟩:=H
  simp only at hgr hp g1 g2 g3 g4
  subst hgr
  subst hp
  simp only[aF]at*
  simp only[ptr]at*
  go_enter Tryz.func172,Tryz.ntmps172
  go_wp2_with(first
   | (go_at_call 59;refine Calls.mono hH ?_;rintro e w3 ⟨rfl,h3,c3,u3⟩;have U3:=Lib.hid (u3.alloc' (.cells #[.int .i64 x1, .int .i64 p, .int .i64 x3, .int .i64 x4, .bool false, .bool x6, .bool x7] 92 (0,0)));have C3:=Lib.hid c3;clear u3 c3 hH)
   | (go_at_call 140;refine Calls.mono (HC.out _ _ U3.out.au.tail C3.out) ?_;rintro e w5 ⟨rfl,h5,c5,u5⟩;have U5:=Lib.hid (U3.out.under u5);have C5:=Lib.hid (TP.out _ c5);have z1:=cell_of U5.out.au.head 1;clear u5 c5))
  have H0:Hid (∃h',ah pc L (G 0) h'/\aj h ((w3.heap.size, .cells #[.int .i64 x1, .int .i64 p, .int .i64 x3, .int .i64 x4, .bool false, .bool x6, .bool x7] 92 (0,0))::h') w w5):=Lib.hid ⟨h5,C5.out,U5.out⟩
  clear C5 U5 C3 U3 HC TP
  generalize w3.heap.size=lb at*
  go_loopw [20] (fun i wr=> ∃k:Nat,k<=p/\i= .int .i64 k/\Hid (∃h',ah pc L (G k) h'/\aj h ((lb, .cells #[.int .i64 x1, .int .i64 p, .int .i64 x3, .int .i64 x4, .bool false, .bool x6, .bool x7] 92 (0,0))::h') w wr)) (fun i _=>p-(intOf i).toNat)
  case atStart=>exact⟨0,by omega,rfl,H0⟩
  case round=>
   obtain⟨k,hk,rfl,HW⟩:=hrel
   by_cases hlt:k<p
   ·obtain⟨hk1,ck,uk⟩:=HW.out
    have vJ:=UR.out (G k) k wr hk1 uk.au.tail ck
    have hmk:=fun W h (hW:In W h) (hc:ah pc L (G k) h)=>yD.out k (aQ (G k).ws a k) W h hW hc (GK ..)
    rw[HT.out k]at hmk
    have HM2:=Lib.hid hmk
    have Ah:=Lib.hid uk
    clear hmk uk ck HW
    generalize aQ (G k).ws a k=r at*
    go_wp2_with(first
     | (go_at_call 61;refine Calls.mono vJ ?_;rintro e w6 ⟨rfl,h6,c6,u6⟩;have U6:=Lib.hid (Ah.out.under u6);have C6:=Lib.hid c6;clear u6 c6 vJ)
     | (go_at_call 101;refine Calls.mono (HM2.out _ _ U6.out.au.tail C6.out) ?_;rintro e w7 ⟨rfl,h7,c7,u7⟩;have U7:=Lib.hid (U6.out.under u7);have C7:=Lib.hid c7;clear u7 c7))
    go_roundw
    case rel=>exact⟨k+1,by omega,by go_num,Lib.hid ⟨h7,C7.out,U7.out⟩⟩
    case measure=>simp[intOf];omega
   ·obtain rfl:k=p:=by omega
    obtain⟨hk1,ck,uk⟩:=HW.out
    have bx:=uk.au.head
    have Ah:=Lib.hid uk
    have UZ:=Lib.hid ck
    have z0:=cell_of bx 0
    have z1:=cell_of bx 1
    have z2:=cell_of bx 2
    have z3:=cell_of bx 3
    have z4:=cell_of bx 4
    have z5:=cell_of bx 5
    have z6:=cell_of bx 6
    simp only[List.getElem?_toArray,List.getElem?_cons_succ,List.getElem?_cons_zero]at z0 z1 z2 z3 z4 z5 z6
    clear bx uk ck HW
    go_wp2_with(go_at_call 77;refine Calls.mono (hwx _) ?_;rintro e w9 ⟨rfl,u9⟩;have U9:=Lib.hid (Ah.out.dK u9);clear u9)
    go_ret
    exact⟨rfl,hk1,UZ.out,U9.out.drop1⟩
end Go.Proofs.YtibemcgdmembeaaGreat
namespace Go.Proofs.YtibemcgdmembeaaGreat
open Go.RowKit
theorem JQ(ws:List Int)(a:Int):2<=(ag ws a).words/\ (ag ws a).words<=66:=by
 obtain⟨g1,g2,_⟩:=dU (oU ws a)
 have:(ag ws a).words=(Ai (oU ws a)).size+2:=rfl
 omega
def af.wX(s:af)(a:Int):Bool:=decide (s.now a=a)&& (ag s.ws a).dh
def af.gU(s:af)(a:Int):af:=if s.wX a=true then s.jJ a else s
def af.rV(s:af)(a:Int):Int:=if s.wX a=true then s.jB a+1 else 1
def af.oZ:Nat->af->Int->Int->af
 |0,s,_,_=>s
 |k+1,s,a,hi=>if a<hi then(s.gU a).oZ k (a+(ag s.ws a).words) hi else s
def af.nJ:Nat->af->Int->Int->Int
 |0,_,_,_=>0
 |k+1,s,a,hi=>if a<hi then s.rV a+(s.gU a).nJ k (a+(ag s.ws a).words) hi else 0
theorem Ej{s:af}{a hi:Int}(h:hi<=a): ∀k,s.oZ k a hi=s/\s.nJ k a hi=0
 |0=>⟨rfl,rfl⟩
 |k+1=>by
  have: ¬a<hi:=by omega
  exact⟨by rw[af.oZ,if_neg this],by rw[af.nJ,if_neg this]⟩
theorem uQ(s:af)(a:Int):(s.gU a).parity=s.parity:=by
 unfold af.gU
 split
 ·exact DD ..
 ·rfl
theorem yg: ∀(k:Nat) (s:af) (a hi:Int),(s.oZ k a hi).parity=s.parity
 |0,_,_,_=>rfl
 |k+1,s,a,hi=>by
  rw[af.oZ]
  split
  ·rw[yg,uQ]
  ·rfl
theorem ug(s:af)(a:Int):1<=s.rV a/\s.rV a<=67:=by
 have:=jK s a
 unfold af.rV
 split<;>omega
theorem iJ: ∀(k:Nat) (s:af) (a hi:Int),0<=s.nJ k a hi/\s.nJ k a hi<=67*k
 |0,_,_,_=>⟨Int.le_refl _,Int.le_refl _⟩
 |k+1,s,a,hi=>by
  have h1:=ug s a
  have h2:=iJ k (s.gU a) (a+(ag s.ws a).words) hi
  rw[af.nJ]
  split
  ·omega
  ·omega
theorem BM(pc:Nat)(L:aX)(s:af)(a used:Int)(w:World)(h:Hp)(hi:In w h)(hc:ah pc L s h)(hpar:s.parity=0∨s.parity=1)(ha:0<=a)(hu:0<=used)(hau:a+used<=4194304):
  Calls Tryz.prog 191 #[ptr pc, .int .i64 a, .int .i64 used] w fun e w'=>
   e= .returned (.int .i64 (s.nJ used.toNat a (a+used)))/\ ∃h',ah pc L (s.oZ used.toNat a (a+used)) h'/\aj h h' w w':=by
 have NJ:=Lib.hid (fun s i W h (hW:In W h) (hc:ah pc L s h)=>kY pc L s i W h hW hc)
 have Nc:=Lib.hid (fun s i W h (hW:In W h) (hc:ah pc L s h) (hi:I64 i)=>oG pc L s i W h hW hc hi)
 have Jq:=Lib.hid (fun s i W h (hW:In W h) (hc:ah pc L s h) hp=>qO pc L s i W h hW hc hp)
 have HB:=iJ used.toNat s a (a+used)
 have hwr:IntKind.i64.wrap (a+used)=a+used:=IntWalk.i64_in _ (by omega)
 obtain⟨hiv,hhi⟩: ∃hiv,hiv=a+used:=⟨_,rfl⟩
 rw[<-hhi]at hwr HB⊢
 obtain⟨R,hR⟩: ∃R,R=s.oZ used.toNat a hiv:=⟨_,rfl⟩
 obtain⟨T,hT⟩: ∃T,T=s.nJ used.toNat a hiv:=⟨_,rfl⟩
 rw[<-hR,<-hT]
 rw[<-hT]at HB
 have H0:Hid (∃(S:af) (k:Nat) (h':Hp),R=S.oZ k a hiv/\T=0+S.nJ k a hiv/\hiv-a<=k/\ (S.parity=0∨S.parity=1)/\ah pc L S h'/\aj h h' w w):=Lib.hid ⟨s,used.toNat,h,hR,by omega,by omega,hpar,hc,aj.refl hi⟩
 clear hR hT hc hi
 simp only[ptr]at*
 go_enter Tryz.func191,Tryz.ntmps191
 go_wp2
 go_loopw [7,8] (fun d i wr=> ∃dn at':Int,0<=at'/\at'<=4194400/\0<=dn/\dn<=T/\d= .int .i64 dn/\i= .int .i64 at'/\Hid (∃(S:af) (k:Nat) (h':Hp),R=S.oZ k at' hiv/\T=dn+S.nJ k at' hiv/\hiv-at'<=k/\ (S.parity=0∨S.parity=1)/\ah pc L S h'/\aj h h' w wr)) (fun _ i _=>(hiv-intOf i).toNat)
 case atStart=>exact⟨0,a,by omega,by omega,by omega,by omega,rfl,rfl,H0⟩
 case round=>
  obtain⟨dn,a,ha0,ha1,hd0,hd1,rfl,rfl,HW⟩:=hrel
  obtain⟨S,k,h1,r1,r2,r3,r4,c1,u1⟩:=HW.out
  by_cases hlt:a<hiv
  ·cases k with
   |zero=>omega
   |succ k=>
    rw[af.oZ,if_pos hlt]at r1
    rw[af.nJ,if_pos hlt]at r2
    have hwd:=JQ S.ws a
    have hG:(ag S.ws a).Good:=dU _
    have hwx:=mM (ag S.ws a) hG
    have hob:=ug S a
    have hnb:=iJ k (S.gU a) (a+(ag S.ws a).words) hiv
    have hI:I64 a:=I64.small (by omega) (by omega)
    have hhd:=NJ.out S a wr h1 u1.au c1
    have hno:=fun W h (hW:In W h) (hc:ah pc L S h)=>Nc.out S a W h hW hc hI
    have hth:=fun W h (hW:In W h) (hc:ah pc L S h)=>Jq.out S a W h hW hc r4
    have HR1:=Lib.hid r1
    have HR2:=Lib.hid r2
    have HU:=Lib.hid u1
    have TY:(S.gU a).parity=0∨(S.gU a).parity=1:=by rw[uQ];exact r4
    have HP:=Lib.hid TY
    have hwr2:IntKind.i64.wrap (a+(ag S.ws a).words)=a+(ag S.ws a).words:=IntWalk.i64_in _ (by omega)
    have Ry:=Lib.hid hno
    have Vr:=Lib.hid hth
    have hone:Hid (S.gU a=if S.wX a=true then S.jJ a else S):=Lib.hid rfl
    have Em:S.rV a=if S.wX a=true then S.jB a+1 else 1:=rfl
    have his:S.wX a=(decide (S.now a=a)&& (ag S.ws a).dh):=rfl
    have hmb:=jK S a
    clear hno hth r1 r2 c1 u1 HW hG TY r4
    generalize hWd:(ag S.ws a).words=wd at*
    generalize hrn:(S.gU a).nJ k (a+wd) hiv=restN at*
    have Pq:=Lib.hid hrn
    clear hrn
    generalize S.jB a=tn at*
    generalize S.now a=na at*
    generalize S.wX a=is at*
    generalize S.rV a=on at*
    generalize ag S.ws a=H at*
    obtain⟨x1,x2,x3,x4,x5,x6,x7⟩:=H
    clear hWd
    simp only[aF]at*
    by_cases hq:na=a
    ·cases x5
     ·skip
      have hv:is=false:=by rw[his];simp[hq]
      have Hq:Hid (S.gU a=S):=Lib.hid (by rw[hone.out,hv];rfl)
      have hon:on=1:=by rw[Em,hv];rfl
      have hq1:(na==a)=true:=by simpa using hq
      clear his Em hv hq
      go_wp2_with(first
        | (go_at_call 59;refine Calls.mono hhd ?_;rintro e w3 ⟨rfl,h3,c3,u3⟩;have U3:=Lib.hid ((HU.out.trans u3).alloc' (.cells #[.int .i64 x1, .int .i64 x2, .int .i64 x3, .int .i64 x4, .bool false, .bool x6, .bool x7] 92 (0,0)));have C3:=Lib.hid c3;clear u3 c3 hhd)
        | (go_at_call 78;refine Calls.mono (Ry.out _ _ U3.out.au.tail C3.out) ?_;rintro e w4 ⟨rfl,h4,c4,u4⟩;have U4:=Lib.hid (U3.out.under u4);have C4:=Lib.hid c4;have z0:=cell_of U4.out.au.head 0;have z1:=cell_of U4.out.au.head 1;have z2:=cell_of U4.out.au.head 2;have z3:=cell_of U4.out.au.head 3;have z4:=cell_of U4.out.au.head 4;have z5:=cell_of U4.out.au.head 5;have z6:=cell_of U4.out.au.head 6;simp only[List.getElem?_toArray,List.getElem?_cons_succ,List.getElem?_cons_zero]at z0 z1 z2 z3 z4 z5 z6;clear u4 c4)
        | (go_at_call 77;refine Calls.mono (hwx _) ?_;rintro e w9 ⟨rfl,u9⟩;have U9:=Lib.hid (U4.out.dK u9);clear u9))
      go_roundw
      case rel=>exact⟨dn+(1),a+wd,by omega,by omega,by omega,by have:=HR2.out;omega,by go_num,by go_num,Lib.hid ⟨S.gU a,k,h4,HR1.out,by have h1:=HR2.out;have h2:=Pq.out;omega,by omega,HP.out,by rw[Hq.out];exact C4.out,U9.out.drop1⟩⟩
      case measure=>simp[intOf];omega
     ·skip
      have hv:is=true:=by rw[his];simp[hq]
      have Hq:Hid (S.gU a=S.jJ a):=Lib.hid (by rw[hone.out,hv];rfl)
      have hon:on=tn+1:=by rw[Em,hv];rfl
      have hq1:(na==a)=true:=by simpa using hq
      clear his Em hv hq
      go_wp2_with(first
        | (go_at_call 59;refine Calls.mono hhd ?_;rintro e w3 ⟨rfl,h3,c3,u3⟩;have U3:=Lib.hid ((HU.out.trans u3).alloc' (.cells #[.int .i64 x1, .int .i64 x2, .int .i64 x3, .int .i64 x4, .bool true, .bool x6, .bool x7] 92 (0,0)));have C3:=Lib.hid c3;clear u3 c3 hhd)
        | (go_at_call 78;refine Calls.mono (Ry.out _ _ U3.out.au.tail C3.out) ?_;rintro e w4 ⟨rfl,h4,c4,u4⟩;have U4:=Lib.hid (U3.out.under u4);have C4:=Lib.hid c4;have z0:=cell_of U4.out.au.head 0;have z1:=cell_of U4.out.au.head 1;have z2:=cell_of U4.out.au.head 2;have z3:=cell_of U4.out.au.head 3;have z4:=cell_of U4.out.au.head 4;have z5:=cell_of U4.out.au.head 5;have z6:=cell_of U4.out.au.head 6;simp only[List.getElem?_toArray,List.getElem?_cons_succ,List.getElem?_cons_zero]at z0 z1 z2 z3 z4 z5 z6;clear u4 c4)
        | (go_at_call 172;refine Calls.mono (Vr.out _ _ U4.out.au.tail C4.out) ?_;rintro e w5 ⟨rfl,h5,c5,u5⟩;have U5:=Lib.hid (U4.out.under u5);have C5:=Lib.hid c5;clear z0 z1 z2 z3 z4 z5 z6;have z0:=cell_of U5.out.au.head 0;have z1:=cell_of U5.out.au.head 1;have z2:=cell_of U5.out.au.head 2;have z3:=cell_of U5.out.au.head 3;have z4:=cell_of U5.out.au.head 4;have z5:=cell_of U5.out.au.head 5;have z6:=cell_of U5.out.au.head 6;simp only[List.getElem?_toArray,List.getElem?_cons_succ,List.getElem?_cons_zero]at z0 z1 z2 z3 z4 z5 z6;clear u5 c5)
        | (go_at_call 77;refine Calls.mono (hwx _) ?_;rintro e w9 ⟨rfl,u9⟩;have U9:=Lib.hid (U5.out.dK u9);clear u9))
      go_roundw
      case rel=>exact⟨dn+(tn+1),a+wd,by omega,by omega,by omega,by have:=HR2.out;omega,by go_num,by go_num,Lib.hid ⟨S.gU a,k,h5,HR1.out,by have h1:=HR2.out;have h2:=Pq.out;omega,by omega,HP.out,by rw[Hq.out];exact C5.out,U9.out.drop1⟩⟩
      case measure=>simp[intOf];omega
    ·skip
     have hv:is=false:=by rw[his];simp[hq]
     have Hq:Hid (S.gU a=S):=Lib.hid (by rw[hone.out,hv];rfl)
     have hon:on=1:=by rw[Em,hv];rfl
     have hq1:(na==a)=false:=by simpa using hq
     clear his Em hv hq
     go_wp2_with(first
       | (go_at_call 59;refine Calls.mono hhd ?_;rintro e w3 ⟨rfl,h3,c3,u3⟩;have U3:=Lib.hid ((HU.out.trans u3).alloc' (.cells #[.int .i64 x1, .int .i64 x2, .int .i64 x3, .int .i64 x4, .bool x5, .bool x6, .bool x7] 92 (0,0)));have C3:=Lib.hid c3;clear u3 c3 hhd)
       | (go_at_call 78;refine Calls.mono (Ry.out _ _ U3.out.au.tail C3.out) ?_;rintro e w4 ⟨rfl,h4,c4,u4⟩;have U4:=Lib.hid (U3.out.under u4);have C4:=Lib.hid c4;have z0:=cell_of U4.out.au.head 0;have z1:=cell_of U4.out.au.head 1;have z2:=cell_of U4.out.au.head 2;have z3:=cell_of U4.out.au.head 3;have z4:=cell_of U4.out.au.head 4;have z5:=cell_of U4.out.au.head 5;have z6:=cell_of U4.out.au.head 6;simp only[List.getElem?_toArray,List.getElem?_cons_succ,List.getElem?_cons_zero]at z0 z1 z2 z3 z4 z5 z6;clear u4 c4)
       | (go_at_call 77;refine Calls.mono (hwx _) ?_;rintro e w9 ⟨rfl,u9⟩;have U9:=Lib.hid (U4.out.dK u9);clear u9))
     go_roundw
     case rel=>exact⟨dn+(1),a+wd,by omega,by omega,by omega,by have:=HR2.out;omega,by go_num,by go_num,Lib.hid ⟨S.gU a,k,h4,HR1.out,by have h1:=HR2.out;have h2:=Pq.out;omega,by omega,HP.out,by rw[Hq.out];exact C4.out,U9.out.drop1⟩⟩
     case measure=>simp[intOf];omega
  ·obtain⟨e1,e2⟩:=Ej (s:=S) (a:=a) (hi:=hiv) (by omega) k
   rw[e1]at r1
   rw[e2]at r2
   have HC:=Lib.hid c1
   have HU:=Lib.hid u1
   have HQ:=Lib.hid (show dn=T by omega)
   have HR:=Lib.hid r1
   clear c1 u1 HW HB H0 e1 e2 r1 r2 r3 r4 NJ Nc Jq hd1
   go_wp2
   go_ret
   exact⟨by rw[<-HQ.out];rfl,h1,by rw[HR.out];exact HC.out,HU.out⟩
end Go.Proofs.YtibemcgdmembeaaGreat
namespace Go.Proofs.YtibemcgdmembeaaGreat
open Go.RowKit
theorem aK.front{T:TypeId}{v:Value}{n:Nat}{x:Value}{xs:List Value}{h:Hp}(hs:aK T 1 v (n+1) (xs++[x]) h):
  ∃g off cap,v= .slice (some ⟨g,off,none⟩) (n+1) cap/\n+1<=cap/\aK T 1 (.slice (some ⟨g,off,none⟩) n cap) n xs h:=by
 obtain⟨hl,hs⟩:=hs
 rcases hs with⟨_,h0,_⟩|⟨g,pre,post,cap,rfl,rfl,h1,h2,h3⟩
 ·cases h0
 ·refine⟨g,pre.length,cap,rfl,h1, ?_⟩
  simp at hl h2
  refine⟨by omega, .inr ?_⟩
  exact⟨g,pre,x::post,cap,rfl,by simp,by omega,by simp;omega,by omega⟩
def bZ.j_(s:bZ):Int:=s.list.getLastD 0
def bZ.o_(s:bZ):Bool:= !s.list.isEmpty
def bZ.pop(s:bZ):bZ:={s with list:=s.list.dropLast}
def bZ.found(s:bZ):bZ:={s with lost:=false}
theorem NK(p:Nat)(s:bZ)(w:World)(h:Hp)(hi:In w h)(hg:lQ p s h):
  Calls Tryz.prog 189 #[.pointer (some ⟨p,0,none⟩)] w fun e w'=>e= .returned (.int .i64 s.list.length)/\w'=w:=by
 obtain⟨v,hs,rfl,hS,w1,w2,w3,w4⟩:=hg
 obtain⟨ao,cap,rfl,hcap⟩:=hS.shape
 have e1:w.cell? ⟨p,1,none⟩=some (.slice ao s.list.length cap):=cell_of hi.head 1
 clear hS
 go_enter Tryz.func189,Tryz.ntmps189
 go_wp2
 go_ret
 exact⟨rfl,rfl⟩
theorem NM(p:Nat)(s:bZ)(w:World)(h:Hp)(hi:In w h)(hg:lQ p s h):
  Calls Tryz.prog 174 #[.pointer (some ⟨p,0,none⟩)] w fun e w'=>e= .returned (.bool s.lost)/\w'=w:=by
 obtain⟨v,hs,rfl,hS,w1,w2,w3,w4⟩:=hg
 have e2:w.cell? ⟨p,2,none⟩=some (.bool s.lost):=cell_of hi.head 2
 clear hS
 go_enter Tryz.func174,Tryz.ntmps174
 go_wp2
 go_ret
 exact⟨rfl,rfl⟩
theorem JR(p:Nat)(s:bZ)(w:World)(h:Hp)(hi:In w h)(hg:lQ p s h):
  Calls Tryz.prog 190 #[.pointer (some ⟨p,0,none⟩)] w fun e w'=>e= .returned (.tuple #[])/\ ∃h',lQ p s.found h'/\aj h h' w w':=by
 obtain⟨v,hs,rfl,hS,w1,w2,w3,w4⟩:=hg
 have e2:w.cell? ⟨p,2,none⟩=some (.bool s.lost):=cell_of hi.head 2
 have f2:w.frozen? ⟨p,2,none⟩=false:=aO hi.head 2
 have HU:=Lib.hid (aj.store1 (aj.refl hi) 2 (.bool false))
 have HS:=Lib.hid hS
 clear hS
 go_enter Tryz.func190,Tryz.ntmps190
 go_wp2
 go_end0
 exact⟨rfl,_,⟨v,hs,rfl,HS.out,w1,w2,w3,w4⟩,HU.out⟩
theorem Qb(p:Nat)(s:bZ)(w:World)(h:Hp)(hi:In w h)(hg:lQ p s h):
  Calls Tryz.prog 171 #[.pointer (some ⟨p,0,none⟩)] w fun e w'=>e= .returned (.tuple #[.int .i64 s.j_, .bool s.o_])/\ ∃h',lQ p s.pop h'/\aj h h' w w':=by
 have hlq:=NK p s w h hi hg
 obtain⟨most,list,lost⟩:=s
 have hg0:=hg
 obtain⟨v,hs,rfl,hS,w1,w2,w3,w4⟩:=hg
 simp only at hS hlq w3 w4
 rcases List.eq_nil_or_concat list with rfl|⟨l,x,rfl⟩
 ·have e:bZ.pop ⟨most,[],lost⟩=⟨most,[],lost⟩:=rfl
  rw[e]
  have HG:=Lib.hid hg0
  have HU:=Lib.hid (aj.refl hi)
  simp only[List.length_nil]at hlq
  clear e hg0 hS
  go_enter Tryz.func171,Tryz.ntmps171
  go_wp2_with(go_at_call 189;refine Calls.mono hlq ?_;rintro e w2 ⟨rfl,rfl⟩)
  go_ret2
  exact⟨rfl,_,HG.out,HU.out⟩
 ·simp only[List.concat_eq_append]at*
  have hlen:(l++[x]).length=l.length+1:=by simp
  have hin:ints (l++[x])=ints l++[.int .i64 x]:=by simp[ints]
  have hpa:bZ.j_ ⟨most,l++[x],lost⟩=x:=by simp[bZ.j_]
  have hpo:bZ.o_ ⟨most,l++[x],lost⟩=true:=by simp[bZ.o_]
  have hpp:bZ.pop ⟨most,l++[x],lost⟩=⟨most,l,lost⟩:=by simp[bZ.pop]
  rw[hpa,hpo,hpp]
  have hS0:=hS
  rw[hlen,hin]at hS
  obtain⟨g,off,cap,rfl,hcap,hF⟩:=aK.front hS
  have hx:w.cell? ⟨g,off+l.length,none⟩=some (.int .i64 x):=by
   have:=hS.cell hi.tail rfl (j:=l.length) (by simp[ints])
   simpa[ints]using this
  have hb:w.heap[p]? =some (nY ⟨most,l++[x],lost⟩ (.slice (some ⟨g,off,none⟩) (l.length+1) cap)):=hi.head
  have e1:w.cell? ⟨p,1,none⟩=some (.slice (some ⟨g,off,none⟩) (l.length+1) cap):=cell_of hb 1
  have f1:w.frozen? ⟨p,1,none⟩=false:=aO hb 1
  rw[hlen]at hlq w3
  have hm:l.length+1<=1048576:=by omega
  have HR:Hid (∃h',lQ p ⟨most,l,lost⟩ h'/\aj ((p,nY ⟨most,l++[x],lost⟩ (.slice (some ⟨g,off,none⟩) (l.length+1) cap))::hs) h' w (w.setCell ⟨p,1,none⟩ (.slice (some ⟨g,off,none⟩) l.length cap))):=Lib.hid
   ⟨_,⟨_,hs,rfl,hF,w1,w2,by show((l.length:Nat):Int)<=most;omega,fun y hy=>w4 y (List.mem_append_left _ hy)⟩,(aj.refl hi).store1 1 _⟩
  clear hS hS0 hF hg0 hb hin hlen hpa hpo hpp w1 w2 w3 w4 hi
  go_enter Tryz.func171,Tryz.ntmps171
  go_wp2_with(go_at_call 189;refine Calls.mono hlq ?_;rintro e w2 ⟨rfl,rfl⟩)
  go_ret2
  exact⟨rfl,HR.out⟩
end Go.Proofs.YtibemcgdmembeaaGreat
namespace Go.Proofs.YtibemcgdmembeaaGreat
open Go.RowKit
def lF:List bC->Nat
 |[]=>0
 |g::l=>(if g.kind=0 then 1 else 0)+lF l
theorem Hr: ∀l:List bC,lF l<=l.length
 |[]=>by simp[lF]
 |g::l=>by have:=Hr l;simp only[lF,List.length_cons];split<;>omega
theorem JS(l:List bC)(k:Nat)(g:bC)(h:l[k]? =some g):lF (l.take (k+1))=lF (l.take k)+(if g.kind=0 then 1 else 0):=by
 induction l generalizing k with
 |nil=>simp at h
 |cons x l ih=>
  cases k with
  |zero=>simp at h;subst h;simp[lF]
  |succ k=>simp at h;simp only[List.take_succ_cons,lF,ih k h];omega
def aP.qA(s:aP):Option Nat:=firstT (s.pages.map (·.pending)) 0
def bC.Fv(g:bC):bC:={g with pending:=decide (g.kind=1)||decide (g.kind=2)}
def jw(l:List bC):Nat->List bC
 |0=>l
 |k+1=>match l[k]? with|some g=>(jw l k).set k g.Fv|none=>jw l k
def aP.pend(s:aP):aP:={s with pages:=jw s.pages s.pages.length}
def aP.uS(s:aP)(n:Nat):aP:=match s.pages[n]? with|some g=>s.bu n {g with pending:=false}|none=>s
theorem sZ(l:List bC): ∀k,(jw l k).length=l.length
 |0=>rfl
 |k+1=>by
  have ih:=sZ l k
  simp only[jw]
  split
  ·rw[List.length_set,ih]
  ·exact ih
theorem BN(l:List bC): ∀(k i:Nat),k<=i->(jw l k)[i]? =l[i]?
 |0,i,_=>rfl
 |k+1,i,h=>by
  have ih:=BN l k i (by omega)
  simp only[jw]
  split
  ·rw[List.getElem?_set_ne (by omega),ih]
  ·exact ih
theorem BO(l:List bC): ∀k,k<=l.length->jw l k=(l.take k).map bC.Fv++l.drop k
 |0,_=>by simp[jw]
 |k+1,h=>by
  have ih:=BO l k (by omega)
  have hk:k<l.length:=by omega
  simp only[jw,List.getElem?_eq_getElem hk,ih]
  rw[List.set_append_right _ _ (by simp;omega)]
  have:k-((l.take k).map bC.Fv).length=0:=by simp;omega
  rw[this,List.drop_eq_getElem_cons hk,List.set_cons_zero,List.take_succ_eq_append_getElem hk,List.map_append,List.append_assoc]
  rfl
theorem JU(s:aP):s.pend.pages=s.pages.map bC.Fv:=by
 show jw _ _=_
 rw[BO _ _ (by omega)]
 simp
theorem bn.kinds{p b:Nat}{rows:List jM}{s:aP}{h:Hp}{w:World}(m:bn p b rows s h)(hi:In w h){k:Nat}{g:bC}(hg:s.pages[k]? =some g):
  w.cell? ⟨b,k*4,none⟩=some (.int .i64 g.kind)/\w.cell? ⟨b,k*4+3,none⟩=some (.bool g.pending):=by
 obtain⟨v,hp,hr,_⟩:=m.row hg
 have:=m.page hi hr
 exact⟨this.1,this.2.2.2⟩
theorem Ht(p:Nat)(s:aP)(w:World)(h:Hp)(hi:In w h)(hm:eF p s h):
  Calls Tryz.prog 33 #[.pointer (some ⟨p,0,none⟩)] w fun e w'=>e= .returned (.int .i64 (lF s.pages))/\w'=w:=by
 obtain⟨b,rows,m⟩:=hm.rows
 obtain⟨c0,c1,c2⟩:=m.cells hi
 have hlen:s.pages.length<=64:=m.2.2.2.2.2.2.2
 have HK:Hid (∀k g,s.pages[k]? =some g->w.cell? ⟨b,k*4,none⟩=some (.int .i64 g.kind)):=Lib.hid fun k g hg=>(m.kinds hi hg).1
 have HS:Hid (∀k g,s.pages[k]? =some g->lF (s.pages.take (k+1))=lF (s.pages.take k)+(if g.kind=0 then 1 else 0)):=Lib.hid fun k g hg=>JS s.pages k g hg
 have HL:Hid (∀k,lF (s.pages.take k)<=k):=Lib.hid fun k=>Nat.le_trans (Hr _) (by simp;omega)
 have HE:Hid (lF (s.pages.take s.pages.length)=lF s.pages):=Lib.hid (by rw[List.take_length])
 have H0:Hid (lF (s.pages.take 0)=0):=Lib.hid rfl
 clear m hi hm
 go_enter Tryz.func33,Tryz.ntmps33
 go_wp2
 go_loop [3,12] (fun v i=> ∃k:Nat,k<=s.pages.length/\i= .int .i64 k/\v= .int .i64 (lF (s.pages.take k):Nat)) (fun _ i=>s.pages.length-(intOf i).toNat)
 case atStart=>exact⟨0,by omega,rfl,by rw[H0.out];rfl⟩
 case round=>
  obtain⟨k,hk,rfl,rfl⟩:=hrel
  have hle:=HL.out k
  by_cases hlt:k<s.pages.length
  ·obtain⟨g,hg⟩: ∃g,s.pages[k]? =some g:=⟨_,List.getElem?_eq_getElem hlt⟩
   have hc:=HK.out k g hg
   have hst:=HS.out k g hg
   clear hg
   generalize lF (s.pages.take k)=d at*
   by_cases hz:g.kind=0
   ·rw[if_pos hz]at hst
    rw[hz]at hc
    have HST:=Lib.hid hst
    clear hz hst
    go_wp2
    go_round
    case rel=>exact⟨k+1,by omega,by go_num,by rw[HST.out];go_num⟩
    case measure=>simp[intOf];omega
   ·rw[if_neg hz]at hst
    have hz1:(g.kind==0)=false:=by simpa using hz
    have HST:=Lib.hid hst
    clear hz hst
    go_wp2
    go_round
    case rel=>exact⟨k+1,by omega,by go_num,by rw[HST.out];rfl⟩
    case measure=>simp[intOf];omega
  ·obtain rfl:k=s.pages.length:=by omega
   rw[HE.out]at hle⊢
   go_wp2
   go_ret
   exact⟨rfl,rfl⟩
theorem BP(p:Nat)(s:aP)(w:World)(h:Hp)(hi:In w h)(hm:eF p s h):
  Calls Tryz.prog 177 #[.pointer (some ⟨p,0,none⟩)] w fun e w'=>e= .returned (.tuple #[.int .i64 (yH s.qA), .bool s.qA.isSome])/\w'=w:=by
 obtain⟨b,rows,m⟩:=hm.rows
 obtain⟨c0,c1,c2⟩:=m.cells hi
 have hlen:s.pages.length<=64:=m.2.2.2.2.2.2.2
 have HK:Hid (∀k g,s.pages[k]? =some g->w.cell? ⟨b,k*4+3,none⟩=some (.bool g.pending)):=Lib.hid fun k g hg=>(m.kinds hi hg).2
 obtain⟨R,hR⟩: ∃R,R=s.qA:=⟨_,rfl⟩
 rw[<-hR]
 have HR:Hid (R=firstT ((s.pages.map (·.pending)).drop 0) 0):=Lib.hid hR
 clear m hi hm hR
 go_enter Tryz.func177,Tryz.ntmps177
 go_wp2
 go_loop [12] (fun i=> ∃k:Nat,k<=s.pages.length/\i= .int .i64 k/\Hid (R=firstT ((s.pages.map (·.pending)).drop k) k)) (fun i=>s.pages.length-(intOf i).toNat)
 case atStart=>exact⟨0,by omega,rfl,HR⟩
 case round=>
  obtain⟨k,hk,rfl,HL⟩:=hrel
  by_cases hlt:k<s.pages.length
  ·obtain⟨g,hg⟩: ∃g,s.pages[k]? =some g:=⟨_,List.getElem?_eq_getElem hlt⟩
   have hc:=HK.out k g hg
   have h2:=uC (s.pages.map (·.pending)) k (by simpa using hlt)
   have h3:(s.pages.map (·.pending)).getD k false=g.pending:=by simp[List.getD,hg]
   rw[h3]at h2
   clear h3 hg
   cases hb:g.pending
   ·rw[hb]at hc h2
    have HV:=Lib.hid (HL.out.trans h2)
    clear h2 hb HL
    go_wp2
    go_round
    case rel=>exact⟨k+1,by omega,by go_num,HV⟩
    case measure=>simp[intOf];omega
   ·rw[hb]at hc h2
    have HV:Hid (R=some k):=Lib.hid (HL.out.trans h2)
    clear h2 hb HL
    go_wp2
    go_ret2
    rw[HV.out]
    exact⟨rfl,rfl⟩
  ·have HV:Hid (R=none):=Lib.hid (HL.out.trans (by rw[List.drop_of_length_le (by simp;omega)];rfl))
   clear HL
   go_wp2
   go_ret2
   rw[HV.out]
   exact⟨rfl,rfl⟩
theorem Hu(p:Nat)(s:aP)(n:Nat)(w:World)(h:Hp)(hi:In w h)(hm:eF p s h)(hn:n<s.pages.length):
  Calls Tryz.prog 178 #[.pointer (some ⟨p,0,none⟩), .int .i64 n] w fun e w'=>e= .returned (.tuple #[.int .i64 (s.begin n), .int .i64 (s.begin n+s.words)])/\aj h h w w':=by
 obtain⟨b,rows,m⟩:=hm.rows
 obtain⟨c0,c1,c2⟩:=m.cells hi
 obtain⟨a1,a2,a3,a4,a5⟩:=m.2.2.2
 have HU:=Lib.hid (aj.refl hi)
 have HQ:=Lib.hid (fun k=>vV p s n (w.drewN k) h (HU.out.drewN' k).au hm (by omega))
 have hbe:s.begin n=s.base+(n:Int)*s.words:=rfl
 have k0:0<=(n:Int)*s.words:=Int.mul_nonneg (by omega) (by omega)
 have k1:(n:Int)*s.words<=64*256:=Int.mul_le_mul (by omega) (by omega) (by omega) (by omega)
 have hb1:0<=s.begin n/\s.begin n<=2097152:=by omega
 clear hbe k0 k1 m hm hi
 generalize s.begin n=bg at*
 go_enter Tryz.func178,Tryz.ntmps178
 go_wp2
 go_quiet ((go_at_call 183;exact Calls.quiet_of (HQ.out _)))
 go_wp2
 go_ret2
 exact⟨rfl,HU.out.drewN' nq⟩
theorem bn.flag{p b:Nat}{rows:List jM}{s:aP}{h h0:Hp}{w0 w:World}(m:bn p b rows s h)(U:aj h0 h w0 w){n:Nat}{g:bC}(hg:s.pages[n]? =some g)(x:Bool):
  ∃rows' h',bn p b rows' (s.bu n {g with pending:=x}) h'/\aj h0 h' w0 (w.setCell ⟨b,n*4+3,none⟩ (.bool x)):=by
 obtain⟨v,hp,hr,hok⟩:=m.row hg
 rw[m.1]at U
 have U2:=aj.store' (l:=[(p,gY s b)]) (b:=b) (arr:=(rows.flatMap dw).toArray) U (n*4+3) (.bool x)
 rw[oC (r':=({g with pending:=x},v,hp)) hr (j:=3) (by omega) rfl]at U2
 have e5:rows.map (·.2.2)=(rows.set n ({g with pending:=x},v,hp)).map (·.2.2):=by
  rw[List.map_set,set_self]
  rw[List.getElem?_map,hr]
  rfl
 have e1:gY (s.bu n {g with pending:=x}) b=gY s b:=by simp[gY,aP.bu]
 refine⟨rows.set n ({g with pending:=x},v,hp),_,⟨rfl, ?_, ?_, ?_⟩, ?_⟩
 ·show s.pages.set n _=_
  rw[List.map_set,m.2.1]
 ·intro q hq
  rcases List.mem_or_eq_of_mem_set hq with h1|h1
  ·exact m.2.2.1 q h1
  ·rw[h1]
   exact hok
 ·obtain⟨a1,a2,a3,a4,a5⟩:=m.2.2.2
  exact⟨a1,a2,a3,a4,by show(s.pages.set n _).length<=64;simpa using a5⟩
 ·rw[gZ,<-e5,e1]
  simpa[jd]using U2
theorem Hw(p:Nat)(s:aP)(n:Nat)(w:World)(h:Hp)(hi:In w h)(hm:eF p s h)(hn:n<s.pages.length):
  Calls Tryz.prog 180 #[.pointer (some ⟨p,0,none⟩), .int .i64 n] w fun e w'=>(∃q,e= .returned (.bool q))/\ ∃h',eF p (s.uS n) h'/\aj h h' w w':=by
 obtain⟨b,rows,m⟩:=hm.rows
 obtain⟨c0,c1,c2⟩:=m.cells hi
 have hlen:s.pages.length<=64:=m.2.2.2.2.2.2.2
 obtain⟨g,hg⟩: ∃g,s.pages[n]? =some g:=⟨_,List.getElem?_eq_getElem hn⟩
 have hc:=(m.kinds hi hg).2
 obtain⟨v,hp,hr,hok⟩:=m.row hg
 have hf:w.frozen? ⟨b,n*4+3,none⟩=false:=aO (m.list hi) _
 have e1:s.uS n=s.bu n {g with pending:=false}:=by simp[aP.uS,hg]
 have H1:Hid (∃h',eF p (s.bu n {g with pending:=false}) h'/\aj h h' w (w.setCell ⟨b,n*4+3,none⟩ (.bool false))):=Lib.hid (by
  obtain⟨rows',h',m',U'⟩:=m.flag (aj.refl hi) hg false
  exact⟨h',m'.MG,U'⟩)
 have H0:Hid (g.pending=false-> ∃h',eF p (s.bu n {g with pending:=false}) h'/\aj h h' w w):=Lib.hid (by
  intro hp0
  have:({g with pending:=false}:bC)=g:=by cases g;simp only at hp0;subst hp0;rfl
  rw[this]
  have e2:s.bu n g=s:=by
   unfold aP.bu
   rw[set_self hg]
  rw[e2]
  exact⟨h,hm,aj.refl hi⟩)
 rw[e1]
 clear m hm hi hg hr hok e1
 cases hb:g.pending
 ·rw[hb]at hc
  have HV:=Lib.hid (H0.out hb)
  clear hb
  go_enter Tryz.func180,Tryz.ntmps180
  go_wp2
  go_ret
  exact⟨⟨_,rfl⟩,HV.out⟩
 ·rw[hb]at hc
  clear hb
  go_enter Tryz.func180,Tryz.ntmps180
  go_wp2
  go_ret
  exact⟨⟨_,rfl⟩,H1.out⟩
end Go.Proofs.YtibemcgdmembeaaGreat
namespace Go.Proofs.YtibemcgdmembeaaGreat
open Go.RowKit
theorem zG(l:List bC)(k:Nat)(g:bC)(h:l[k]? =some g):jw l (k+1)=(jw l k).set k {g with pending:=decide (g.kind=1)||decide (g.kind=2)}:=by
 simp only[jw,h]
 rfl
theorem Hy(p:Nat)(s:aP)(w:World)(h:Hp)(hi:In w h)(hm:eF p s h):
  Calls Tryz.prog 176 #[.pointer (some ⟨p,0,none⟩)] w fun e w'=>e= .returned (.tuple #[])/\ ∃h',eF p s.pend h'/\aj h h' w w':=by
 obtain⟨b,rows,m⟩:=hm.rows
 obtain⟨c0,c1,c2⟩:=m.cells hi
 have hlen:s.pages.length<=64:=m.2.2.2.2.2.2.2
 have HS:Hid (∃rows' h',bn p b rows' {s with pages:=jw s.pages 0} h'/\aj h h' w w):=Lib.hid ⟨rows,h,m,aj.refl hi⟩
 have HE:Hid (s.pend={s with pages:=jw s.pages s.pages.length}):=Lib.hid rfl
 clear m hi hm
 go_enter Tryz.func176,Tryz.ntmps176
 go_wp2
 go_loopw [10] (fun i wr=> ∃k:Nat,k<=s.pages.length/\i= .int .i64 k/\Hid (∃rows' h',bn p b rows' {s with pages:=jw s.pages k} h'/\aj h h' w wr)) (fun i _=>s.pages.length-(intOf i).toNat)
 case atStart=>exact⟨0,by omega,rfl,HS⟩
 case round=>
  obtain⟨k,hk,rfl,HW⟩:=hrel
  obtain⟨oV,h1,m1,u1⟩:=HW.out
  by_cases hlt:k<s.pages.length
  ·obtain⟨q0,q1,q2⟩:=m1.cells u1.au
   have hln:(jw s.pages k).length=s.pages.length:=sZ ..
   simp only[hln]at q0 q1 q2
   obtain⟨g,hg⟩: ∃g,s.pages[k]? =some g:=⟨_,List.getElem?_eq_getElem hlt⟩
   have hg1:(jw s.pages k)[k]? =some g:=(BN _ _ _ (Nat.le_refl _)).trans hg
   obtain⟨d0,d3⟩:=m1.kinds u1.au hg1
   have f3:wr.frozen? ⟨b,k*4+3,none⟩=false:=aO (m1.list u1.au) _
   have HN:Hid (∃rows' h',bn p b rows' {s with pages:=jw s.pages (k+1)} h'/\aj h h' w (wr.setCell ⟨b,k*4+3,none⟩ (.bool (decide (g.kind=1)||decide (g.kind=2))))):=Lib.hid (by
    rw[zG _ _ _ hg]
    exact m1.flag u1 hg1 _)
   have wO:(wr.setCell ⟨b,k*4+3,none⟩ (.bool (decide (g.kind=1)||decide (g.kind=2)))).drew.cell? ⟨p,2,none⟩=some (.slice (some ⟨b,0,none⟩) s.pages.length s.pages.length)/\ (wr.setCell ⟨b,k*4+3,none⟩ (.bool (decide (g.kind=1)||decide (g.kind=2)))).drew.cell? ⟨b,k*4,none⟩=some (.int .i64 g.kind):=by
    obtain⟨zH,h2,m2,u2⟩:=HN.out
    have e2:=(m2.cells u2.au).2.2
    have hg2:(jw s.pages (k+1))[k]? =some {g with pending:=decide (g.kind=1)||decide (g.kind=2)}:=by
     rw[zG _ _ _ hg,List.getElem?_set_self (by rw[hln];omega)]
    have e3:=(m2.kinds u2.au hg2).1
    simp only[sZ]at e2
    exact⟨e2,e3⟩
   clear m1 u1 HW hln hg1 hg
   have hS0:wr.drew.cell? ⟨p,2,none⟩=some (.slice (some ⟨b,0,none⟩) s.pages.length s.pages.length)/\wr.drew.cell? ⟨b,k*4,none⟩=some (.int .i64 g.kind):=⟨q2,d0⟩
   by_cases g1:g.kind=1
   ·have g1':(g.kind==1)=true:=by simpa using g1
    have e:(decide (g.kind=1)||decide (g.kind=2))=true:=by simp[g1]
    rw[e]at HN wO
    rw[g1]at d0 hS0 wO
    clear e g1 g1'
    go_wp2
    refine wp_region_held_drew (S:=fun w'=>w'.cell? ⟨p,2,none⟩=some (.slice (some ⟨b,0,none⟩) s.pages.length s.pages.length)/\w'.cell? ⟨b,k*4,none⟩=some (.int .i64 1)) (by kernel_rfl) (hS0) (fun hHeld=> ?_)
    refine wpAnyH_take (i:=0) (v:= ?_) rfl (by kernel_rfl) (by kernel_rfl) (by kernel_rfl) (fun _ _ _ h=>h) (Or.inl ⟨by kernel_rfl, ?_⟩) (by assumption) ?_
    rotate_left
    ·(intro w' hSw;(try dsimp only at hSw);go_simp;(try with_reducible rfl))
    try simp only[Act.put,List.setIfInBounds_toArray,List.set_cons_zero,List.set_cons_succ]
    refine wpAnyH_take (i:=1) (v:= ?_) rfl (by kernel_rfl) (by kernel_rfl) (by kernel_rfl) (fun _ _ _ h=>h) (Or.inl ⟨by kernel_rfl, ?_⟩) (by assumption) ?_
    rotate_left
    ·(intro w' hSw;(try dsimp only at hSw);go_simp;(try with_reducible rfl))
    try simp only[Act.put,List.setIfInBounds_toArray,List.set_cons_zero,List.set_cons_succ]
    refine wpAnyH_take (i:=2) (v:= ?_) rfl (by kernel_rfl) (by kernel_rfl) (by kernel_rfl) (fun _ _ _ h=>h) (Or.inl ⟨by kernel_rfl, ?_⟩) (by assumption) ?_
    rotate_left
    ·(intro w' hSw;(try dsimp only at hSw);go_simp;(try with_reducible rfl))
    try simp only[Act.put,List.setIfInBounds_toArray,List.set_cons_zero,List.set_cons_succ]
    refine wpAnyH_take (i:=3) (v:= ?_) rfl (by kernel_rfl) (by kernel_rfl) (by kernel_rfl) (fun _ _ _ h=>h) (Or.inl ⟨by kernel_rfl, ?_⟩) (by assumption) ?_
    rotate_left
    ·(intro w' hSw;(try dsimp only at hSw);go_simp;(try with_reducible rfl))
    try simp only[Act.put,List.setIfInBounds_toArray,List.set_cons_zero,List.set_cons_succ]
    refine wpAnyH_take (i:=4) (v:= ?_) rfl (by kernel_rfl) (by kernel_rfl) (by kernel_rfl) (fun _ _ _ h=>h) (Or.inl ⟨by kernel_rfl, ?_⟩) (by assumption) ?_
    rotate_left
    ·(intro w' hSw;(try dsimp only at hSw);go_simp;(try with_reducible rfl))
    try simp only[Act.put,List.setIfInBounds_toArray,List.set_cons_zero,List.set_cons_succ]
    refine wpAnyH_take (i:=5) (v:= ?_) rfl (by kernel_rfl) (by kernel_rfl) (by kernel_rfl) (fun _ _ _ h=>h) (Or.inl ⟨by kernel_rfl, ?_⟩) (by assumption) ?_
    rotate_left
    ·(intro w' hSw;(try dsimp only at hSw);go_simp;(try with_reducible rfl))
    try simp only[Act.put,List.setIfInBounds_toArray,List.set_cons_zero,List.set_cons_succ]
    refine wpAnyH_take (i:=6) (v:= ?_) rfl (by kernel_rfl) (by kernel_rfl) (by kernel_rfl) (fun _ _ _ h=>h) (Or.inl ⟨by kernel_rfl, ?_⟩) (by assumption) ?_
    rotate_left
    ·(intro w' hSw;(try dsimp only at hSw);go_simp;(try with_reducible rfl))
    try simp only[Act.put,List.setIfInBounds_toArray,List.set_cons_zero,List.set_cons_succ]
    refine wpAnyH_take (i:=7) (v:= ?_) rfl (by kernel_rfl) (by kernel_rfl) (by kernel_rfl) (fun _ _ _ h=>h) (Or.inl ⟨by kernel_rfl, ?_⟩) (by assumption) ?_
    rotate_left
    ·(intro w' hSw;(try dsimp only at hSw);go_simp;(try with_reducible rfl))
    try simp only[Act.put,List.setIfInBounds_toArray,List.set_cons_zero,List.set_cons_succ]
    refine wpAnyH_take (i:=8) (v:= ?_) rfl (by kernel_rfl) (by kernel_rfl) (by kernel_rfl) (fun _ _ _ h=>h) (Or.inl ⟨by kernel_rfl, ?_⟩) (by assumption) ?_
    rotate_left
    ·(intro w' hSw;(try dsimp only at hSw);go_simp;(try with_reducible rfl))
    try simp only[Act.put,List.setIfInBounds_toArray,List.set_cons_zero,List.set_cons_succ]
    refine wpAnyH_take (i:=9) (v:= ?_) rfl (by kernel_rfl) (by kernel_rfl) (by kernel_rfl) (fun _ _ _ h=>h) (Or.inl ⟨by kernel_rfl, ?_⟩) (by assumption) ?_
    rotate_left
    ·(intro w' hSw;(try dsimp only at hSw);go_simp;(try with_reducible rfl))
    try simp only[Act.put,List.setIfInBounds_toArray,List.set_cons_zero,List.set_cons_succ]
    refine wpAnyH_take (i:=10) (v:= ?_) rfl (by kernel_rfl) (by kernel_rfl) (by kernel_rfl) (fun _ _ _ h=>h) (Or.inl ⟨by kernel_rfl, ?_⟩) (by assumption) ?_
    rotate_left
    ·(intro w' hSw;(try dsimp only at hSw);go_simp;(try with_reducible rfl))
    try simp only[Act.put,List.setIfInBounds_toArray,List.set_cons_zero,List.set_cons_succ]
    refine wpAnyH_take (i:=11) (v:= ?_) rfl (by kernel_rfl) (by kernel_rfl) (by kernel_rfl) (fun _ _ _ h=>h) (Or.inl ⟨by kernel_rfl, ?_⟩) (by assumption) ?_
    rotate_left
    ·(intro w' hSw;(try dsimp only at hSw);go_simp;(try with_reducible rfl))
    try simp only[Act.put,List.setIfInBounds_toArray,List.set_cons_zero,List.set_cons_succ]
    refine wpAnyH_take (i:=12) (v:= ?_) rfl (by kernel_rfl) (by kernel_rfl) (by kernel_rfl) (fun _ _ _ h=>h) (Or.inl ⟨by kernel_rfl, ?_⟩) (by assumption) ?_
    rotate_left
    ·(intro w' hSw;(try dsimp only at hSw);go_simp;(try with_reducible rfl))
    try simp only[Act.put,List.setIfInBounds_toArray,List.set_cons_zero,List.set_cons_succ]
    refine wpAnyH_take (i:=13) (v:= ?_) rfl (by kernel_rfl) (by kernel_rfl) (by kernel_rfl) (fun _ _ _ h=>h) (Or.inl ⟨by kernel_rfl, ?_⟩) (by assumption) ?_
    rotate_left
    ·(intro w' hSw;(try dsimp only at hSw);go_simp;(try with_reducible rfl))
    try simp only[Act.put,List.setIfInBounds_toArray,List.set_cons_zero,List.set_cons_succ]
    refine wpAnyH_take (i:=14) (v:= ?_) rfl (by kernel_rfl) (by kernel_rfl) (by kernel_rfl) (fun _ _ _ h=>h) (Or.inl ⟨by kernel_rfl, ?_⟩) (by assumption) ?_
    rotate_left
    ·(intro w' hSw;(try dsimp only at hSw);go_simp;(try with_reducible rfl))
    try simp only[Act.put,List.setIfInBounds_toArray,List.set_cons_zero,List.set_cons_succ]
    refine wpAnyH_take (i:=15) (v:=undef) rfl (by kernel_rfl) (by kernel_rfl) (by kernel_rfl) (fun _ _ _ h=>h) (Or.inr ⟨by kernel_rfl,rfl⟩) (by assumption) ?_
    try simp only[Act.put,List.setIfInBounds_toArray,List.set_cons_zero,List.set_cons_succ]
    refine wpAnyH_take (i:=16) (v:=undef) rfl (by kernel_rfl) (by kernel_rfl) (by kernel_rfl) (fun _ _ _ h=>h) (Or.inr ⟨by kernel_rfl,rfl⟩) (by assumption) ?_
    try simp only[Act.put,List.setIfInBounds_toArray,List.set_cons_zero,List.set_cons_succ]
    refine wpAnyH_take (i:=17) (v:=undef) rfl (by kernel_rfl) (by kernel_rfl) (by kernel_rfl) (fun _ _ _ h=>h) (Or.inr ⟨by kernel_rfl,rfl⟩) (by assumption) ?_
    try simp only[Act.put,List.setIfInBounds_toArray,List.set_cons_zero,List.set_cons_succ]
    refine wpAnyH_take (i:=18) (v:=undef) rfl (by kernel_rfl) (by kernel_rfl) (by kernel_rfl) (fun _ _ _ h=>h) (Or.inr ⟨by kernel_rfl,rfl⟩) (by assumption) ?_
    try simp only[Act.put,List.setIfInBounds_toArray,List.set_cons_zero,List.set_cons_succ]
    refine wpAnyH_take (i:=19) (v:=undef) rfl (by kernel_rfl) (by kernel_rfl) (by kernel_rfl) (fun _ _ _ h=>h) (Or.inr ⟨by kernel_rfl,rfl⟩) (by assumption) ?_
    try simp only[Act.put,List.setIfInBounds_toArray,List.set_cons_zero,List.set_cons_succ]
    refine wpAnyH_take (i:=20) (v:=undef) rfl (by kernel_rfl) (by kernel_rfl) (by kernel_rfl) (fun _ _ _ h=>h) (Or.inr ⟨by kernel_rfl,rfl⟩) (by assumption) ?_
    try simp only[Act.put,List.setIfInBounds_toArray,List.set_cons_zero,List.set_cons_succ]
    refine wpAnyH_take (i:=21) (v:=undef) rfl (by kernel_rfl) (by kernel_rfl) (by kernel_rfl) (fun _ _ _ h=>h) (Or.inr ⟨by kernel_rfl,rfl⟩) (by assumption) ?_
    try simp only[Act.put,List.setIfInBounds_toArray,List.set_cons_zero,List.set_cons_succ]
    refine wpAnyH_take (i:=22) (v:=undef) rfl (by kernel_rfl) (by kernel_rfl) (by kernel_rfl) (fun _ _ _ h=>h) (Or.inr ⟨by kernel_rfl,rfl⟩) (by assumption) ?_
    try simp only[Act.put,List.setIfInBounds_toArray,List.set_cons_zero,List.set_cons_succ]
    refine wpAnyH_take (i:=23) (v:=undef) rfl (by kernel_rfl) (by kernel_rfl) (by kernel_rfl) (fun _ _ _ h=>h) (Or.inr ⟨by kernel_rfl,rfl⟩) (by assumption) ?_
    try simp only[Act.put,List.setIfInBounds_toArray,List.set_cons_zero,List.set_cons_succ]
    refine wpAnyH_take (i:=24) (v:= ?_) rfl (by kernel_rfl) (by kernel_rfl) (by kernel_rfl) (fun _ _ _ h=>h) (Or.inl ⟨by kernel_rfl, ?_⟩) (by assumption) ?_
    rotate_left
    ·(intro w' hSw;(try dsimp only at hSw);go_simp;(try with_reducible rfl))
    try simp only[Act.put,List.setIfInBounds_toArray,List.set_cons_zero,List.set_cons_succ]
    refine wpAnyH_take (i:=25) (v:= ?_) rfl (by kernel_rfl) (by kernel_rfl) (by kernel_rfl) (fun _ _ _ h=>h) (Or.inl ⟨by kernel_rfl, ?_⟩) (by assumption) ?_
    rotate_left
    ·(intro w' hSw;(try dsimp only at hSw);go_simp;(try with_reducible rfl))
    try simp only[Act.put,List.setIfInBounds_toArray,List.set_cons_zero,List.set_cons_succ]
    refine wpAnyH_take (i:=26) (v:= ?_) rfl (by kernel_rfl) (by kernel_rfl) (by kernel_rfl) (fun _ _ _ h=>h) (Or.inl ⟨by kernel_rfl, ?_⟩) (by assumption) ?_
    rotate_left
    ·(intro w' hSw;(try dsimp only at hSw);go_simp;(try with_reducible rfl))
    try simp only[Act.put,List.setIfInBounds_toArray,List.set_cons_zero,List.set_cons_succ]
    refine wpAnyH_ready (rs:=[27]) (by kernel_rfl) (by simp) ?_
    refine AllReadyH.cons (o:=_) rfl (fun K hK=> ?_) AllReadyH.nil
    go_simp
    skip
    try go_wp2_with fail
    refine hK.out _ _ (wO) (fun hHeld=> ?_)
    clear hK K
    try simp only[Act.put,List.setIfInBounds_toArray,List.set_cons_zero,List.set_cons_succ]
    refine wpAnyH_done (by kernel_rfl) ?_ _
    go_simp
    go_wp2
    go_roundw
    case rel=>exact⟨k+1,by omega,by go_num,Lib.hid (by obtain⟨zH,h2,m2,u2⟩:=HN.out;exact⟨zH,h2,m2,u2.drew'⟩)⟩
    case measure=>simp[intOf];omega
   ·by_cases g2:g.kind=2
    ·have e:(decide (g.kind=1)||decide (g.kind=2))=true:=by simp[g2]
     rw[e]at HN wO
     rw[g2]at d0 hS0 wO
     clear e g1 g2
     go_wp2
     go_region_held3 (fun w'=>w'.cell? ⟨p,2,none⟩=some (.slice (some ⟨b,0,none⟩) s.pages.length s.pages.length)/\w'.cell? ⟨b,k*4,none⟩=some (.int .i64 2))
      (first|with_reducible exact hS0|with_reducible exact wO|go_keep)
      (fail)
     go_wp2
     go_roundw
     case rel=>exact⟨k+1,by omega,by go_num,Lib.hid (by obtain⟨zH,h2,m2,u2⟩:=HN.out;exact⟨zH,h2,m2,u2.drew'⟩)⟩
     case measure=>simp[intOf];omega
    ·have e:(decide (g.kind=1)||decide (g.kind=2))=false:=by simp[g1,g2]
     rw[e]at HN wO
     have g1':(g.kind==1)=false:=by simpa using g1
     have g2':(g.kind==2)=false:=by simpa using g2
     clear e g1 g2
     go_wp2
     go_region_held3 (fun w'=>w'.cell? ⟨p,2,none⟩=some (.slice (some ⟨b,0,none⟩) s.pages.length s.pages.length)/\w'.cell? ⟨b,k*4,none⟩=some (.int .i64 g.kind))
      (first|with_reducible exact hS0|with_reducible exact wO|go_keep)
      (fail)
     go_wp2
     go_roundw
     case rel=>exact⟨k+1,by omega,by go_num,Lib.hid (by obtain⟨zH,h2,m2,u2⟩:=HN.out;exact⟨zH,h2,m2,u2.drew'⟩)⟩
     case measure=>simp[intOf];omega
  ·obtain rfl:k=s.pages.length:=by omega
   obtain⟨q0,q1,q2⟩:=m1.cells u1.au
   have HM:=Lib.hid m1
   have HU:=Lib.hid u1
   clear m1 u1 HW
   go_wp2
   go_end0
   exact⟨rfl,h1,by rw[HE.out];exact HM.out.MG,HU.out⟩
end Go.Proofs.YtibemcgdmembeaaGreat
namespace Go.Proofs.YtibemcgdmembeaaGreat
open Go.RowKit
def noT:List Bool->Bool
 |[]=>true
 |b::l=>if b then false else noT l
theorem Qc(l:List Bool)(k:Nat)(h:k<l.length):noT (l.drop k)=if l.getD k false then false else noT (l.drop (k+1)):=by
 rw[List.drop_eq_getElem_cons h]
 simp[noT,List.getD,h]
def kQ(l:List bC):Nat->Nat->List bC
 |_,0=>l
 |n,c+1=>kQ (l.set n yC) (n+1) c
theorem wY: ∀(c:Nat) (l:List bC) (n:Nat),(kQ l n c).length=l.length
 |0,_,_=>rfl
 |c+1,l,n=>by rw[kQ,wY c];simp
theorem BQ: ∀(c:Nat) (l:List bC) (n m:Nat),(kQ l n c)[m]? =if n<=m/\m<n+c/\m<l.length then some yC else l[m]?
 |0,l,n,m=>by rw[kQ,if_neg (by omega)]
 |c+1,l,n,m=>by
  rw[kQ,BQ c,List.getElem?_set]
  simp only[List.length_set]
  by_cases h1:n+1<=m/\m<n+1+c/\m<l.length
  ·rw[if_pos h1,if_pos (by omega)]
  ·rw[if_neg h1]
   by_cases h2:n=m
   ·subst h2
    by_cases h3:n<l.length
    ·rw[if_pos rfl,if_pos h3,if_pos (by omega)]
    ·rw[if_pos rfl,if_neg h3,if_neg (by omega),List.getElem?_eq_none (by omega)]
   ·rw[if_neg h2,if_neg (by omega)]
def aP.BR(s:aP)(n:Nat)(g:bC):aP:=if noT g.used=true then s.bu n yC else s.bu n g
def aP.tq(s:aP)(n k:Nat)(g:bC):aP:=if g.kind=2 then {s with pages:=kQ s.pages n (dS s.words g.size).toNat}else s.BR n (g.use k false)
def aP.BU(s:aP)(o:Option (Nat×Nat)):aP:=match o with
 |some (n,k)=>(match s.pages[n]? with|some g=>s.tq n k g|none=>s)
 |none=>s
def aP.give(s:aP)(a:Int):aP:=s.BU (s.at a)
theorem NP(p b:Nat)(rows:List jM)(s:aP)(n:Nat)(g:bC)(w:World)(h:Hp)(hi:In w h)(m:bn p b rows s h)(hg:s.pages[n]? =some g):
  Calls Tryz.prog 192 #[.pointer (some ⟨b,n*4,none⟩)] w fun e w'=>e= .returned (.bool (noT g.used))/\w'=w:=by
 obtain⟨v,hp,hr,hok⟩:=m.row hg
 obtain⟨c0,c1,c2,c3⟩:=m.page hi hr
 simp only at c0 c1 c2 c3
 have sG:=m.part hi hr
 have V3:g.used.length<=1048576:=hok.2
 have hS:=hok.1
 simp only at hS
 obtain⟨ao,cap,rfl,hcap⟩:=hS.shape
 obtain⟨R,hR⟩: ∃R,R=noT g.used:=⟨_,rfl⟩
 rw[<-hR]
 have HR:Hid (R=noT (g.used.drop 0)):=Lib.hid hR
 have HC:Hid (∀k,k<g.used.length-> ∃gb off,ao=some ⟨gb,off,none⟩/\w.cell? ⟨gb,off+k,none⟩=some (.bool (g.used.getD k false))):=Lib.hid (by
  intro k hk
  obtain⟨gb,off,cap',hv,_⟩:=hS.addr (by omega)
  have hc:=hS.cell sG hv (j:=k) (by simpa using hk)
  simp only[Value.slice.injEq]at hv
  refine⟨gb,off,hv.1, ?_⟩
  rw[hc]
  simp[List.getD,hk])
 clear hR hS hok m c0 c1 c3 sG
 go_enter Tryz.func192,Tryz.ntmps192
 go_wp2
 go_loop [10] (fun i=> ∃k:Nat,k<=g.used.length/\i= .int .i64 k/\Hid (R=noT (g.used.drop k))) (fun i=>g.used.length-(intOf i).toNat)
 case atStart=>exact⟨0,by omega,rfl,HR⟩
 case round=>
  obtain⟨k,hk,rfl,HL⟩:=hrel
  by_cases hlt:k<g.used.length
  ·obtain⟨gb,off,rfl,hc⟩:=HC.out k hlt
   have h2:=Qc g.used k hlt
   cases hb:g.used.getD k false
   ·rw[hb]at hc h2
    have HV:Hid (R=noT (g.used.drop (k+1))):=Lib.hid (HL.out.trans h2)
    clear h2 hb HL
    go_wp2
    go_round
    case rel=>exact⟨k+1,by omega,by go_num,HV⟩
    case measure=>simp[intOf];omega
   ·rw[hb]at hc h2
    have HV:Hid (R=false):=Lib.hid (HL.out.trans h2)
    clear h2 hb HL
    go_wp2
    go_ret
    rw[HV.out]
    exact⟨rfl,rfl⟩
  ·have HV:Hid (R=true):=Lib.hid (HL.out.trans (by rw[List.drop_of_length_le (by omega)];rfl))
   clear HL
   go_wp2
   go_ret
   rw[HV.out]
   exact⟨rfl,rfl⟩
theorem bn.blanks{p b:Nat}: ∀(c:Nat) {rows:List jM} {s:aP} {h h0:Hp} {w0 w:World} (m:bn p b rows s h) (U:aj h0 h w0 w) (n:Nat) (hn:n+c<=s.pages.length),
  ∃rows' h',bn p b rows' {s with pages:=kQ s.pages n c} h'/\aj h0 h' w0 (w.setCells b (n*4) ((List.replicate c [Value.int .i64 0, .int .i64 0, .slice none 0 0, .bool false]).flatten))
 |0,rows,s,h,h0,w0,w,m,U,n,hn=>⟨rows,h,m,U⟩
 |c+1,rows,s,h,h0,w0,w,m,U,n,hn=>by
  obtain⟨g0,hg0⟩: ∃g0,s.pages[n]? =some g0:=⟨_,List.getElem?_eq_getElem (by omega)⟩
  obtain⟨oV,h1,m1,U1⟩:=m.blank U hg0 yC rfl
  obtain⟨zH,h2,m2,U2⟩:=bn.blanks c m1 U1 (n+1) (by show n+1+c<=(s.pages.set n yC).length;rw[List.length_set];omega)
  refine⟨zH,h2,m2, ?_⟩
  rw[List.replicate_succ,List.flatten_cons]
  simp only[List.cons_append,List.nil_append,World.setCells]
  rw[show(n+1)*4=n*4+1+1+1+1 by omega]at U2
  exact U2
theorem zX(w:World)(ty:TypeId)(b n c cap:Nat)(hc0:0<c)(hc: ∀j,j<c*4->(w.cell? ⟨b,n*4+j,none⟩).isSome=true)(hf: ∀j,w.frozen? ⟨b,j,none⟩=false):
  (Builtin.clear_ #[104] ty #[.slice (some ⟨b,n*4,none⟩) c cap]).run Tryz.prog w= .ok (.tuple #[]) (w.setCells b (n*4) ((List.replicate c [Value.int .i64 0, .int .i64 0, .slice none 0 0, .bool false]).flatten)):=by
 obtain⟨i,hi,hz0,hz1,hz2⟩:=info_parts Tryz.Gg
 have hz:(zeroValue 109).run Tryz.prog w= .ok (.agg #[.int .i64 0, .int .i64 0, .slice none 0 0, .bool false]) w:=by
  kernel_rfl
 have hzc:(Builtin.zeroCells #[Value.int .i64 0, .int .i64 0, .slice none 0 0, .bool false] c).toList=(List.replicate c [Value.int .i64 0, .int .i64 0, .slice none 0 0, .bool false]).flatten:=by
  have e:Builtin.zeroCells #[Value.int .i64 0, .int .i64 0, .slice none 0 0, .bool false] c=madeCells #[Value.int .i64 0, .int .i64 0, .slice none 0 0, .bool false] (c*4):=rfl
  rw[e,uz]
 have hlen:((List.replicate c [Value.int .i64 0, .int .i64 0, .slice none 0 0, .bool false]).flatten).length=c*4:=by simp
 have hst:=run_storeCells_cells (P:=Tryz.prog) b (n*4) ((List.replicate c [Value.int .i64 0, .int .i64 0, .slice none 0 0, .bool false]).flatten) 0 w (by rw[hlen];simpa using hc) (by intro j _;exact hf _) (by
  intro v hv
  rw[List.mem_flatten]at hv
  obtain⟨l,hl,hv⟩:=hv
  rw[List.eq_of_mem_replicate hl]at hv
  simp only[List.mem_cons,List.not_mem_nil,or_false]at hv
  rcases hv with rfl|rfl|rfl|rfl<;>rfl)
 simp only[Nat.add_zero]at hst
 obtain⟨m,rfl⟩: ∃m,c=m+1:=⟨c-1,by omega⟩
 have hcl:(Value.agg #[.int .i64 0, .int .i64 0, .slice none 0 0, .bool false]).cells=#[Value.int .i64 0, .int .i64 0, .slice none 0 0, .bool false]:=rfl
 simp[Builtin.clear_,run_underlying Tryz.underlying104,hz,hcl,hzc,hst]
theorem bn.Si{p b:Nat}{rows:List jM}{s:aP}{h:Hp}{w:World}(m:bn p b rows s h)(hi:In w h){n:Nat}{g:bC}(hg:s.pages[n]? =some g){k:Nat}(hk:k<g.used.length)(v:Bool):
  ∃gb off cap,w.cell? ⟨b,n*4+2,none⟩=some (.slice (some ⟨gb,off,none⟩) g.used.length cap)/\ (∃x,w.cell? ⟨gb,off+k,none⟩=some x)/\w.frozen? ⟨gb,off+k,none⟩=false/\
   ∃rows' h',bn p b rows' (s.bu n (g.use k v)) h'/\aj h h' w (w.setCell ⟨gb,off+k,none⟩ (.bool v)):=by
 obtain⟨va,hp,hr,hok⟩:=m.row hg
 obtain⟨c0,c1,c2,c3⟩:=m.page hi hr
 simp only at c0 c1 c2 c3
 have sG:=m.part hi hr
 have V3:g.used.length<=1048576:=hok.2
 have hS:=hok.1
 simp only at hS
 obtain⟨gb,off,cap,hv,hcap⟩:=hS.addr (by omega)
 subst hv
 have hc:=hS.cell sG rfl (j:=k) (by simpa using hk)
 refine⟨gb,off,cap,c2,⟨_,hc⟩,hS.frozen sG rfl _, ?_⟩
 obtain⟨hp',hS',u⟩:=hS.store sG rfl (j:=k) (by simpa using hk) (.bool v)
 rw[DY]at hS'
 have U:=aj.fH (l:=gZ p s b rows) (i:=n+2) (by rw[<-m.1];exact aj.refl hi) (by simp[hr]) u
 have hn:n<rows.length:=(List.getElem?_eq_some_iff.1 hr).1
 have hset:(gZ p s b rows).set (n+2) hp'=gZ p (s.bu n (g.use k v)) b (rows.set n (g.use k v, .slice (some ⟨gb,off,none⟩) g.used.length cap,hp')):=by
  have e1:gY (s.bu n (g.use k v)) b=gY s b:=by simp[gY,aP.bu]
  have e2:jd (rows.set n (g.use k v, .slice (some ⟨gb,off,none⟩) g.used.length cap,hp'))=jd rows:=by
   unfold jd
   have:=xI rows n 0 (.int .i64 g.kind) _ (g.use k v, .slice (some ⟨gb,off,none⟩) g.used.length cap,hp') hr (by omega) rfl
   rw[<-this,Nat.add_zero]
   congr 2
   refine set_self ?_
   have:=xA rows n 0 (by omega)
   rw[Nat.add_zero,hr]at this
   exact this
  simp only[gZ,e1,e2,List.set_cons_succ,List.map_set]
 rw[hset]at U
 refine⟨_,_,⟨rfl, ?_, ?_, ?_⟩,U⟩
 ·show s.pages.set n _=_
  rw[List.map_set,m.2.1]
 ·intro q hq
  rcases List.mem_or_eq_of_mem_set hq with h1|h1
  ·exact m.2.2.1 q h1
  ·rw[h1]
   exact⟨by simpa[bC.use]using hS',by simpa[bC.use]using V3⟩
 ·obtain⟨a1,a2,a3,a4,a5⟩:=m.2.2.2
  exact⟨a1,a2,a3,a4,by show(s.pages.set n _).length<=64;simpa using a5⟩
end Go.Proofs.YtibemcgdmembeaaGreat
namespace Go.Proofs.YtibemcgdmembeaaGreat
open Go.RowKit
def af.jV(s:af):af:={s with g:=s.g.found,look:=0}
def af.ng(s:af):af:=s.jV.oZ s.y.cu.toNat s.y.cf (s.y.cf+s.y.cu)
def af.tu(s:af):Int:=s.jV.nJ s.y.cu.toNat s.y.cf (s.y.cf+s.y.cu)
def af.uT(s:af):af:=s.ng.oZ s.y.ou.toNat s.y.of (s.y.of+s.y.ou)
def af.BV(s:af):Int:=s.tu+s.ng.nJ s.y.ou.toNat s.y.of (s.y.of+s.y.ou)+1
structure mO(s s':af):Prop where
 C:s'.C=s.C
 y:s'.y=s.y
 o:s'.o=s.o
 r:s'.r=s.r
 t:s'.t=s.t
 parity:s'.parity=s.parity
 phase:s'.phase=s.phase
 aG:s'.aG=s.aG
 scan:s'.scan=s.scan
 copied:s'.copied=s.copied
 look:s'.look=s.look
 row:s'.row=s.row
 done:s'.done=s.done
 wl:s'.ws.length=s.ws.length
 most:s'.g.most=s.g.most
 gl:(s.g.list.length:Int)<=s.g.most->(s'.g.list.length:Int)<=s'.g.most
theorem mO.refl(s:af):mO s s:=⟨rfl,rfl,rfl,rfl,rfl,rfl,rfl,rfl,rfl,rfl,rfl,rfl,rfl,rfl,rfl,id⟩
theorem mO.trans{a b c:af}(x:mO a b)(z:mO b c):mO a c:=
 ⟨z.C.trans x.C,z.y.trans x.y,z.o.trans x.o,z.r.trans x.r,z.t.trans x.t,z.parity.trans x.parity,z.phase.trans x.phase,z.aG.trans x.aG,z.scan.trans x.scan,z.copied.trans x.copied,z.look.trans x.look,z.row.trans x.row,z.done.trans x.done,z.wl.trans x.wl,z.most.trans x.most,fun h=>z.gl (x.gl h)⟩
theorem yU(g:bZ)(x:Int):(g.push x).most=g.most/\ ((g.list.length:Int)<=g.most->((g.push x).list.length:Int)<=g.most):=by
 unfold bZ.push bZ.full
 split
 ·exact⟨rfl,id⟩
 ·rename_i h
  refine⟨rfl,fun _=> ?_⟩
  simp only[decide_eq_true_eq]at h
  simp only[List.length_append,List.length_cons,List.length_nil]
  omega
theorem nR(s:af)(i:Int):mO s (s.mark i):=by
 unfold af.mark
 split
 ·exact⟨rfl,rfl,rfl,rfl,rfl,rfl,rfl,rfl,rfl,rfl,rfl,rfl,rfl,iC ..,(yU ..).1,fun h=>by
   have:=(yU s.g (s.now i)).2 h
   have e:=(yU s.g (s.now i)).1
   simp only
   omega⟩
 ·exact .refl s
theorem En(s:af)(a:Int): ∀k,mO s (s.vS a k)
 |0=> .refl s
 |k+1=>(En s a k).trans (nR _ _)
theorem zI(s:af)(a:Int):mO s (s.kP a):=⟨rfl,rfl,rfl,rfl,rfl,rfl,rfl,rfl,rfl,rfl,rfl,rfl,rfl,iC ..,rfl,id⟩
theorem uU(s:af)(a:Int):mO s (s.jJ a):=by
 unfold af.jJ
 split
 ·exact(zI s a).trans (En ..)
 ·exact .refl s
theorem Fz(s:af)(a:Int):mO s (s.gU a):=by
 unfold af.gU
 split
 ·exact uU ..
 ·exact .refl s
theorem tC: ∀(k:Nat) (s:af) (a hi:Int),mO s (s.oZ k a hi)
 |0,s,_,_=> .refl s
 |k+1,s,a,hi=>by
  rw[af.oZ]
  split
  ·exact(Fz s a).trans (tC k _ _ _)
  ·exact .refl s
def af.jC(s:af)(a:Int):af:=if(ag s.ws a).dh=true then s.jJ a else s
def af.yh(s:af)(a:Int):Int:=if(ag s.ws a).dh=true then s.jB a+1 else 1
def nK:List Int->af->af
 |[],s=>s
 |a::l,s=>nK l (s.jC a)
def nU:List Int->af->Int
 |[],_=>0
 |a::l,s=>s.yh a+nU l (s.jC a)
def af.dO(s:af):List Int:=s.o.starts (s.o.begin s.look.toNat) (s.o.begin s.look.toNat+s.o.words)
def af.Eo(s:af):af:={s with look:=if s.C.pages<=s.look+1 then-1 else s.look+1}
def af.uV(s:af):af:=(nK s.dO s).Eo
def af.BX(s:af):Int:=1+nU s.dO s
theorem yj(s:af)(a:Int):mO s (s.jC a):=by
 unfold af.jC
 split
 ·exact uU ..
 ·exact .refl s
theorem wZ: ∀(l:List Int) (s:af),mO s (nK l s)
 |[],s=> .refl s
 |a::l,s=>(yj s a).trans (wZ l _)
theorem lU: ∀(l:List Int) (s:af),0<=nU l s/\nU l s<=67*l.length
 |[],_=>⟨Int.le_refl _,Int.le_refl _⟩
 |a::l,s=>by
  have h1:=lU l (s.jC a)
  have h2:=jK s a
  simp only[nU,List.length_cons,af.yh]
  split<;>omega
def af.vT(s:af):af:={s with g:=s.g.pop}
def af.tH(s:af):af:={s with phase:=2,o:=s.o.pend}
def af.wu(s:af):af:=if s.g.o_=true then s.vT.jJ (s.now s.g.j_)else if 0<=s.look then s.uV else if s.g.lost=true then s.uT else s.tH
def af.uh(s:af):Int:=if s.g.o_=true then s.vT.jB (s.now s.g.j_)else if 0<=s.look then s.BX else if s.g.lost=true then s.BV else 1
def af.dD(s:af)(a:Int):af:=if(ag s.ws a).parity=s.parity then s else {s with o:=s.o.give a}
def eH:List Int->af->af
 |[],s=>s
 |a::l,s=>eH l (s.dD a)
def af.dJ(s:af)(n:Nat):List Int:=s.o.starts (s.o.begin n) (s.o.begin n+s.o.words)
def af.ni(s:af)(n:Nat):af:={eH (s.dJ n) s with o:=(eH (s.dJ n) s).o.uS n}
def af.BZ(s:af):af:={s with phase:=0,done:={s.done with qP:=wrap64 (s.done.qP+1)}}
def af.qQ(s:af):af:=match s.o.qA with
 |some n=>s.ni n
 |none=>s.BZ
def af.pX(s:af):Int:=match s.o.qA with
 |some n=>1+(s.dJ n).length
 |none=>1
def af.fC(s:af):af:=if s.phase=0 then s else if s.phase=1 then s.wu else s.qQ
def af.tJ(s:af):Int:=if s.phase=0 then 0 else if s.phase=1 then s.uh else s.pX
def af.yV(s:af):Bool:=if s.phase=0 then false else if s.phase=1 then true else s.o.qA.isSome
def af.jD:Nat->af->Int->Int->Option (af×Int)
 |0,_,_,_=>none
 |k+1,s,d,work=>if d<work then(if s.yV=true then s.fC.jD k (d+s.tJ) work else some (s.fC,d+s.tJ))else some (s,d)
def uj:List Int->af->af
 |[],s=>s
 |a::l,s=>uj l (s.mark a)
def af.gB(s:af):af:={s with phase:=1,parity:=1-s.parity,look:= -1}
def af.um(s:af):Bool:=decide (s.phase=0)
def af.dF(s:af):af:=if s.um=true then uj s.t s.gB else s
theorem B_: ∀(l:List Int) (s:af),mO s (uj l s)
 |[],s=> .refl s
 |a::l,s=>(nR s a).trans (B_ l _)
end Go.Proofs.YtibemcgdmembeaaGreat
namespace Go.Proofs.YtibemcgdmembeaaGreat
open Go.RowKit
theorem Hz(pc:Nat)(L:aX)(s:af)(w:World)(h:Hp)(hi:In w h)(hc:ah pc L s h):
  Calls Tryz.prog 190 #[.pointer (some ⟨L.pg,0,none⟩)] w fun e w'=>e= .returned (.tuple #[])/\ ∃h',ah pc L {s with g:=s.g.found} h'/\aj h h' w w':=by
 obtain⟨v,ha',hy,ho,hr,hg,ht,hw,rfl,ca,cy,co,cr,cg,ct,cw⟩:=hc
 refine Calls.mono (JR L.pg s.g w hg (In.dh (x:=[]) hi) cg) fun e w' hh=> ?_
 obtain⟨he,hg',Wv,u⟩:=hh
 exact⟨he,_,⟨v,ha',hy,ho,hr,hg',ht,hw,rfl,ca,cy,co,cr,Wv,ct,cw⟩,aj.dh (x:=[]) (aj.refl hi) u⟩
theorem NQ(pc:Nat)(L:aX)(s:af)(w:World)(h:Hp)(hi:In w h)(hc:ah pc L s h):
  Calls Tryz.prog 171 #[.pointer (some ⟨L.pg,0,none⟩)] w fun e w'=>e= .returned (.tuple #[.int .i64 s.g.j_, .bool s.g.o_])/\ ∃h',ah pc L {s with g:=s.g.pop} h'/\aj h h' w w':=by
 obtain⟨v,ha',hy,ho,hr,hg,ht,hw,rfl,ca,cy,co,cr,cg,ct,cw⟩:=hc
 refine Calls.mono (Qb L.pg s.g w hg (In.dh (x:=[]) hi) cg) fun e w' hh=> ?_
 obtain⟨he,hg',Wv,u⟩:=hh
 exact⟨he,_,⟨v,ha',hy,ho,hr,hg',ht,hw,rfl,ca,cy,co,cr,Wv,ct,cw⟩,aj.dh (x:=[]) (aj.refl hi) u⟩
theorem JV(pc:Nat)(L:aX)(s:af)(w:World)(h:Hp)(hi:In w h)(hc:ah pc L s h):
  Calls Tryz.prog 121 #[.pointer (some ⟨L.py,0,none⟩)] w fun e w'=>e= .returned (.int .i64 s.y.ou)/\aj h h w w':=by
 obtain⟨v,ha',hy,ho,hr,hg,ht,hw,rfl,ca,cy,co,cr,cg,ct,cw⟩:=hc
 exact Calls.mono (DR L.py s.y w hy (In.fG (x:=[]) hi) cy) fun e w' hh=>⟨hh.1,aj.fG (x:=[]) (aj.refl hi) hh.2⟩
theorem FB{pc:Nat}{L:aX}{s:af}{h h0:Hp}{w w0:World}(hc:ah pc L s h)(u:aj h0 h w0 w)(x:Int): ∃h',ah pc L {s with look:=x} h'/\aj h0 h' w0 (w.setCell ⟨pc,24,none⟩ (.int .i64 x)):=by
 obtain⟨v,ha',hy,ho,hr,hg,ht,hw,rfl,ca,cy,co,cr,cg,ct,cw⟩:=hc
 exact⟨_,⟨v,ha',hy,ho,hr,hg,ht,hw,rfl,ca,cy,co,cr,cg,ct,cw⟩,aj.Ep (x:=[]) u x⟩
theorem JW(pc:Nat)(L:aX)(s:af)(w:World)(h:Hp)(hi:In w h)(hc:ah pc L s h)(hpar:s.parity=0∨s.parity=1):
  Calls Tryz.prog 175 #[ptr pc] w fun e w'=>e= .returned (.int .i64 s.BV)/\ ∃h',ah pc L s.uT h'/\aj h h' w w':=by
 obtain⟨y1,y2,y3,y4,y5,y6,y7,y8⟩:=aJ.WF.bounds hc.Fa
 have yof:0<=s.y.of/\s.y.of<=2097152:=by
  have q:=hc.Fa
  unfold aJ.WF at q
  unfold aJ.of
  split<;>omega
 have hfd:=Hz pc L s w h hi hc
 have HP:Hid (∀(S:af) W h,In W h->ah pc L S h->W.cell? ⟨pc,14,none⟩=some (.pointer (some ⟨L.py,0,none⟩))/\W.cell? ⟨pc,17,none⟩=some (.pointer (some ⟨L.pg,0,none⟩))):=Lib.hid (fun S W h hW hc=>⟨(ah.ptrs (x:=[]) hc hW).2.1,(ah.ptrs (x:=[]) hc hW).2.2.2.2.1⟩)
 have p5:=(HP.out s w h hi hc).2
 have HL:Hid (∀(S:af) W h,In W h->ah pc L S h->W.cell? ⟨pc,24,none⟩=some (.int .i64 S.look)/\W.frozen? ⟨pc,24,none⟩=false):=Lib.hid (fun S W h hW hc=>by
  obtain⟨v,ha',hy,ho,hr,hg,ht,hw,rfl,ca,cy,co,cr,cg,ct,cw⟩:=hc
  exact⟨cell_of (In.core (x:=[]) hW) 24,aZ (In.core (x:=[]) hW) 24⟩)
 have Va:=Lib.hid (fun W h (hW:In W h) (hc:ah pc L s.jV h)=>wR pc L s.jV W h hW hc)
 have TM:=Lib.hid (fun W h (hW:In W h) (hc:ah pc L s.jV h)=>wS pc L s.jV W h hW hc)
 have HLf:Hid (∀W h,In W h->ah pc L s.ng h->Calls Tryz.prog 121 #[.pointer (some ⟨L.py,0,none⟩)] W fun e w'=>e= .returned (.int .i64 s.y.ou)/\aj h h W w'):=Lib.hid (fun W h hW hc=>by
  have e:s.ng.y=s.y:=by exact(tC ..).y
  have:=JV pc L s.ng W h hW hc
  rwa[e]at this)
 have HA:Hid (∀W h,In W h->ah pc L s.jV h->Calls Tryz.prog 191 #[ptr pc, .int .i64 s.y.cf, .int .i64 s.y.cu] W fun e w'=>e= .returned (.int .i64 s.tu)/\ ∃h',ah pc L s.ng h'/\aj h h' W w'):=Lib.hid (fun W h hW hc=>BM pc L s.jV s.y.cf s.y.cu W h hW hc hpar (by omega) (by omega) (by omega))
 have HBb:Hid (∀W h,In W h->ah pc L s.ng h->Calls Tryz.prog 191 #[ptr pc, .int .i64 s.y.of, .int .i64 s.y.ou] W fun e w'=>e= .returned (.int .i64 (s.ng.nJ s.y.ou.toNat s.y.of (s.y.of+s.y.ou)))/\ ∃h',ah pc L s.uT h'/\aj h h' W w'):=Lib.hid (fun W h hW hc=>BM pc L s.ng s.y.of s.y.ou W h hW hc (by unfold af.ng;rw[yg];exact hpar) (by omega) (by omega) (by omega))
 have b1:0<=s.tu/\s.tu<=67*s.y.cu.toNat:=iJ ..
 have b2:=iJ s.y.ou.toNat s.ng s.y.of (s.y.of+s.y.ou)
 have WI:Hid (s.BV=s.tu+s.ng.nJ s.y.ou.toNat s.y.of (s.y.of+s.y.ou)+1):=Lib.hid rfl
 have hb1:s.tu<=1000000000:=by omega
 have hb2:s.ng.nJ s.y.ou.toNat s.y.of (s.y.of+s.y.ou)<=1000000000:=by omega
 have b1':=b1.1
 have b2':=b2.1
 rw[WI.out]
 have hfs:s.jV={ ({s with g:=s.g.found}:af)with look:=0}:=rfl
 have HFS:=Lib.hid hfs
 have e1:s.jV.y=s.y:=rfl
 rw[e1]at Va TM
 clear b1 b2 hc hi hfs e1 WI
 generalize s.ng.nJ s.y.ou.toNat s.y.of (s.y.of+s.y.ou)=nb at*
 generalize s.tu=na at*
 have wr1:IntKind.i64.wrap (na+nb)=na+nb:=IntWalk.i64_in _ (by omega)
 have wr2:IntKind.i64.wrap (na+nb+1)=na+nb+1:=IntWalk.i64_in _ (by omega)
 simp only[ptr]at*
 go_enter Tryz.func175,Tryz.ntmps175
 go_wp2_with(first
  | (go_at_call 190;refine Calls.mono hfd ?_;rintro e w2 ⟨rfl,h2,c2,u2⟩;(obtain⟨k24,f24⟩:=HL.out _ _ _ u2.au c2);(obtain⟨h3,c3,u3⟩:=FB c2 u2 0);have C3:=Lib.hid c3;have U3:=Lib.hid u3;have k14:=(HP.out _ _ _ u3.au c3).1;clear c2 u2 c3 u3 hfd)
  | (go_at_call 119;refine Calls.mono (Va.out _ _ U3.out.au C3.out) ?_;rintro e w4 ⟨rfl,u4⟩;have U4:=Lib.hid (U3.out.trans u4);clear u4))
 have hS0:=(HP.out _ _ _ U4.out.drew'.au C3.out).1
 clear k14 p5 k24 f24
 refine wp_region_held_drew (S:=fun w'=>w'.cell? ⟨pc,14,none⟩=some (.pointer (some ⟨L.py,0,none⟩))) (by kernel_rfl) (hS0) (fun hHeld=> ?_)
 refine wpAnyH_take (i:=0) (v:= ?_) rfl (by kernel_rfl) (by kernel_rfl) (by kernel_rfl) (fun _ _ _ h=>h) (Or.inl ⟨by kernel_rfl, ?_⟩) (by assumption) ?_
 rotate_left
 ·(intro w' hSw;(try dsimp only at hSw);go_simp;(try with_reducible rfl))
 try simp only[Act.put,List.setIfInBounds_toArray,List.set_cons_zero,List.set_cons_succ]
 refine wpAnyH_take (i:=1) (v:= ?_) rfl (by kernel_rfl) (by kernel_rfl) (by kernel_rfl) (fun _ _ _ h=>h) (Or.inl ⟨by kernel_rfl, ?_⟩) (by assumption) ?_
 rotate_left
 ·(intro w' hSw;(try dsimp only at hSw);go_simp;(try with_reducible rfl))
 try simp only[Act.put,List.setIfInBounds_toArray,List.set_cons_zero,List.set_cons_succ]
 refine wpAnyH_take (i:=2) (v:= ?_) rfl (by kernel_rfl) (by kernel_rfl) (by kernel_rfl) (fun _ _ _ h=>h) (Or.inl ⟨by kernel_rfl, ?_⟩) (by assumption) ?_
 rotate_left
 ·(intro w' hSw;(try dsimp only at hSw);go_simp;(try with_reducible rfl))
 try simp only[Act.put,List.setIfInBounds_toArray,List.set_cons_zero,List.set_cons_succ]
 refine wpAnyH_take (i:=3) (v:= ?_) rfl (by kernel_rfl) (by kernel_rfl) (by kernel_rfl) (fun _ _ _ h=>h) (Or.inl ⟨by kernel_rfl, ?_⟩) (by assumption) ?_
 rotate_left
 ·(intro w' hSw;(try dsimp only at hSw);go_simp;(try with_reducible rfl))
 try simp only[Act.put,List.setIfInBounds_toArray,List.set_cons_zero,List.set_cons_succ]
 refine wpAnyH_take (i:=4) (v:= ?_) rfl (by kernel_rfl) (by kernel_rfl) (by kernel_rfl) (fun _ _ _ h=>h) (Or.inl ⟨by kernel_rfl, ?_⟩) (by assumption) ?_
 rotate_left
 ·(intro w' hSw;(try dsimp only at hSw);go_simp;(try with_reducible rfl))
 try simp only[Act.put,List.setIfInBounds_toArray,List.set_cons_zero,List.set_cons_succ]
 refine wpAnyH_take (i:=5) (v:= ?_) rfl (by kernel_rfl) (by kernel_rfl) (by kernel_rfl) (fun _ _ _ h=>h) (Or.inl ⟨by kernel_rfl, ?_⟩) (by assumption) ?_
 rotate_left
 ·(intro w' hSw;(try dsimp only at hSw);go_simp;(try with_reducible rfl))
 try simp only[Act.put,List.setIfInBounds_toArray,List.set_cons_zero,List.set_cons_succ]
 refine wpAnyH_take (i:=8) (v:= ?_) rfl (by kernel_rfl) (by kernel_rfl) (by kernel_rfl) (fun _ _ _ h=>h) (Or.inl ⟨by kernel_rfl, ?_⟩) (by assumption) ?_
 rotate_left
 ·(intro w' hSw;(try dsimp only at hSw);go_simp;(try with_reducible rfl))
 try simp only[Act.put,List.setIfInBounds_toArray,List.set_cons_zero,List.set_cons_succ]
 refine wpAnyH_take (i:=9) (v:= ?_) rfl (by kernel_rfl) (by kernel_rfl) (by kernel_rfl) (fun _ _ _ h=>h) (Or.inl ⟨by kernel_rfl, ?_⟩) (by assumption) ?_
 rotate_left
 ·(intro w' hSw;(try dsimp only at hSw);go_simp;(try with_reducible rfl))
 try simp only[Act.put,List.setIfInBounds_toArray,List.set_cons_zero,List.set_cons_succ]
 refine wpAnyH_take (i:=10) (v:= ?_) rfl (by kernel_rfl) (by kernel_rfl) (by kernel_rfl) (fun _ _ _ h=>h) (Or.inl ⟨by kernel_rfl, ?_⟩) (by assumption) ?_
 rotate_left
 ·(intro w' hSw;(try dsimp only at hSw);go_simp;(try with_reducible rfl))
 try simp only[Act.put,List.setIfInBounds_toArray,List.set_cons_zero,List.set_cons_succ]
 refine wpAnyH_take (i:=11) (v:= ?_) rfl (by kernel_rfl) (by kernel_rfl) (by kernel_rfl) (fun _ _ _ h=>h) (Or.inl ⟨by kernel_rfl, ?_⟩) (by assumption) ?_
 rotate_left
 ·(intro w' hSw;(try dsimp only at hSw);go_simp;(try with_reducible rfl))
 try simp only[Act.put,List.setIfInBounds_toArray,List.set_cons_zero,List.set_cons_succ]
 refine wpAnyH_take (i:=12) (v:= ?_) rfl (by kernel_rfl) (by kernel_rfl) (by kernel_rfl) (fun _ _ _ h=>h) (Or.inl ⟨by kernel_rfl, ?_⟩) (by assumption) ?_
 rotate_left
 ·(intro w' hSw;(try dsimp only at hSw);go_simp;(try with_reducible rfl))
 try simp only[Act.put,List.setIfInBounds_toArray,List.set_cons_zero,List.set_cons_succ]
 refine wpAnyH_take (i:=13) (v:= ?_) rfl (by kernel_rfl) (by kernel_rfl) (by kernel_rfl) (fun _ _ _ h=>h) (Or.inl ⟨by kernel_rfl, ?_⟩) (by assumption) ?_
 rotate_left
 ·(intro w' hSw;(try dsimp only at hSw);go_simp;(try with_reducible rfl))
 try simp only[Act.put,List.setIfInBounds_toArray,List.set_cons_zero,List.set_cons_succ]
 refine wpAnyH_ready (rs:=[6]) (by kernel_rfl) (by simp) ?_
 refine AllReadyH.cons (o:=_) rfl (fun K hK=> ?_) AllReadyH.nil
 go_simp
 go_wp2_with(go_at_call 120;refine Calls.mono (TM.out _ _ U4.out.drew'.au C3.out) ?_;rintro e w5 ⟨rfl,u5⟩;have U5:=Lib.hid (U4.out.drew'.trans u5);have hS5:=(HP.out _ _ _ U5.out.au C3.out).1;clear u5)
 try go_wp2_with fail
 refine hK.out _ _ (hS5) (fun hHeld=> ?_)
 clear hK K
 try simp only[Act.put,List.setIfInBounds_toArray,List.set_cons_zero,List.set_cons_succ]
 refine wpAnyH_ready (rs:=[7]) (by kernel_rfl) (by simp) ?_
 refine AllReadyH.cons (o:=_) rfl (fun K hK=> ?_) AllReadyH.nil
 go_simp
 go_wp2_with(go_at_call 191;refine Calls.mono (HA.out _ _ U5.out.au C3.out) ?_;rintro e w6 ⟨rfl,h6,c6,u6⟩;have C6:=Lib.hid c6;have U6:=Lib.hid (U5.out.trans u6);have hS6:=(HP.out _ _ _ U6.out.au C6.out).1;clear u6 c6)
 try go_wp2_with fail
 refine hK.out _ _ (hS6) (fun hHeld=> ?_)
 clear hK K
 try simp only[Act.put,List.setIfInBounds_toArray,List.set_cons_zero,List.set_cons_succ]
 refine wpAnyH_ready (rs:=[14]) (by kernel_rfl) (by simp) ?_
 refine AllReadyH.cons (o:=_) rfl (fun K hK=> ?_) AllReadyH.nil
 go_simp
 go_wp2_with(go_at_call 121;refine Calls.mono (HLf.out _ _ U6.out.au C6.out) ?_;rintro e w7 ⟨rfl,u7⟩;have U7:=Lib.hid (U6.out.trans u7);have hS7:=(HP.out _ _ _ U7.out.au C6.out).1;clear u7)
 try go_wp2_with fail
 refine hK.out _ _ (hS7) (fun hHeld=> ?_)
 clear hK K
 try simp only[Act.put,List.setIfInBounds_toArray,List.set_cons_zero,List.set_cons_succ]
 refine wpAnyH_ready (rs:=[15]) (by kernel_rfl) (by simp) ?_
 refine AllReadyH.cons (o:=_) rfl (fun K hK=> ?_) AllReadyH.nil
 go_simp
 go_wp2_with(go_at_call 191;refine Calls.mono (HBb.out _ _ U7.out.au C6.out) ?_;rintro e w8 ⟨rfl,h8,c8,u8⟩;have C8:=Lib.hid c8;have U8:=Lib.hid (U7.out.trans u8);have RF:=(HP.out _ _ _ U8.out.au C8.out).1;clear u8 c8)
 try go_wp2_with fail
 refine hK.out _ _ (RF) (fun hHeld=> ?_)
 clear hK K
 try simp only[Act.put,List.setIfInBounds_toArray,List.set_cons_zero,List.set_cons_succ]
 refine wpAnyH_take (i:=16) (v:= ?_) rfl (by kernel_rfl) (by kernel_rfl) (by kernel_rfl) (fun _ _ _ h=>h) (Or.inl ⟨by kernel_rfl, ?_⟩) (by assumption) ?_
 rotate_left
 ·(intro w' hSw;(try dsimp only at hSw);go_simp;(try with_reducible rfl))
 try simp only[Act.put,List.setIfInBounds_toArray,List.set_cons_zero,List.set_cons_succ]
 refine wpAnyH_take (i:=17) (v:= ?_) rfl (by kernel_rfl) (by kernel_rfl) (by kernel_rfl) (fun _ _ _ h=>h) (Or.inl ⟨by kernel_rfl, ?_⟩) (by assumption) ?_
 rotate_left
 ·(intro w' hSw;(try dsimp only at hSw);go_simp;(try with_reducible rfl))
 try simp only[Act.put,List.setIfInBounds_toArray,List.set_cons_zero,List.set_cons_succ]
 refine wpAnyH_take (i:=18) (v:= ?_) rfl (by kernel_rfl) (by kernel_rfl) (by kernel_rfl) (fun _ _ _ h=>h) (Or.inl ⟨by kernel_rfl, ?_⟩) (by assumption) ?_
 rotate_left
 ·(intro w' hSw;(try dsimp only at hSw);go_simp;(try with_reducible rfl))
 try simp only[Act.put,List.setIfInBounds_toArray,List.set_cons_zero,List.set_cons_succ]
 refine wpAnyH_done (by kernel_rfl) ?_ _
 go_simp
 go_wp2
 go_ret
 exact⟨rfl,h8,C8.out,U8.out⟩
end Go.Proofs.YtibemcgdmembeaaGreat
namespace Go.Proofs.YtibemcgdmembeaaGreat
open Go.RowKit
theorem H6(p:Nat)(s:aP)(a:Int)(w:World)(h:Hp)(hi:In w h)(hm:eF p s h)(v:s.V)(ha:I64 a):
  Calls Tryz.prog 179 #[.pointer (some ⟨p,0,none⟩), .int .i64 a] w fun e w'=>e= .returned (.bool (s.at a).isSome)/\ ∃h',eF p (s.give a) h'/\aj h h' w w':=by
 have hat:=D5 p s a w h hi hm v.ok ha
 obtain⟨b,rows,m⟩:=hm.rows
 have a5:=m.2.2.2.2.2.2.2
 cases hq:s.at a with
 |none=>
  have e1:s.give a=s:=by simp[aP.give,hq,aP.BU]
  rw[e1]
  rw[hq]at hat
  simp only[O9,O_,Option.isSome_none]at hat⊢
  have HM:=Lib.hid hm
  clear hq e1 m hm
  go_enter Tryz.func179,Tryz.ntmps179
  go_wp2_with(go_at_call 86;refine Calls.mono hat ?_;rintro e w1 ⟨rfl,u1⟩;have U1:=Lib.hid u1;clear u1 hat)
  go_ret
  exact⟨rfl,h,HM.out,U1.out⟩
 |some nk=>
  obtain⟨n,k⟩:=nk
  obtain⟨g,hg,hh⟩:=(sH v).1 hq
  have hnl:n<s.pages.length:=(List.getElem?_eq_some_iff.1 hg).1
  have e1:s.give a=s.tq n k g:=by simp[aP.give,hq,aP.BU,hg]
  rw[e1]
  rw[hq]at hat
  simp only[O9,O_,Option.isSome_some]at hat⊢
  have HM:=Lib.hid m
  have HC:Hid (∀W,In W h->W.cell? ⟨p,1,none⟩=some (.int .i64 s.words)/\W.cell? ⟨p,2,none⟩=some (.slice (some ⟨b,0,none⟩) s.pages.length s.pages.length)/\W.cell? ⟨b,n*4,none⟩=some (.int .i64 g.kind)/\W.cell? ⟨b,n*4+1,none⟩=some (.int .i64 g.size)/\ ∀i,W.frozen? ⟨b,i,none⟩=false):=Lib.hid (by
   intro W hW
   obtain⟨va,hp,hr,hok⟩:=m.row hg
   obtain⟨c0,c1,c2,c3⟩:=m.page hW hr
   exact⟨(m.cells hW).2.1,(m.cells hW).2.2,c0,c1,fun i=>aO (m.list hW) i⟩)
  rcases hh with⟨g2,rfl,hae⟩|⟨g1,hu,hae⟩<;>clear hae
  ·obtain⟨b1,b2,b3,b4⟩:=v.big n g hg g2
   obtain⟨y1,y2,y3⟩:=fU b1 b2 v.w16
   have Af:=fun W=>qh s.words g.size W b1 b2 v.w16 (by have:=v.AU;omega)
   obtain⟨c,hc⟩: ∃c:Nat,dS s.words g.size=c:=⟨(dS s.words g.size).toNat,by omega⟩
   have e2:s.tq n 0 g={s with pages:=kQ s.pages n c}:=by simp[aP.tq,g2,hc]
   rw[e2]
   rw[hc]at Af b3 y1
   have YO:n+c<=s.pages.length:=by omega
   have HCL:Hid (∀W,In W h->(∀ty,(Builtin.clear_ #[104] ty #[.slice (some ⟨b,n*4,none⟩) c (s.pages.length-n)]).run Tryz.prog W= .ok (.tuple #[]) (W.setCells b (n*4) ((List.replicate c [Value.int .i64 0, .int .i64 0, .slice none 0 0, .bool false]).flatten)))):=Lib.hid (by
    intro W hW ty
    refine zX W ty b n c _ (by omega) ?_ (fun j=>aO (m.list hW) j)
    intro j hj
    rw[cell_of (m.list hW)]
    have hl: ∀rows:List jM,(rows.flatMap dw).length=rows.length*4:=by
     intro rows
     induction rows with
     |nil=>rfl
     |cons x l ih=>
      simp only[List.flatMap_cons,List.length_append,ih,List.length_cons]
      have:(dw x).length=4:=rfl
      omega
    have:=m.len
    have hlt:n*4+j<(rows.flatMap dw).length:=by rw[hl];omega
    simp only[List.getElem?_toArray,List.getElem?_eq_getElem hlt,Option.isSome_some])
   have HB:Hid (∀W,aj h h w W-> ∃rows' h',bn p b rows' {s with pages:=kQ s.pages n c} h'/\aj h h' w (W.setCells b (n*4) ((List.replicate c [Value.int .i64 0, .int .i64 0, .slice none 0 0, .bool false]).flatten))):=Lib.hid (fun W u=>m.blanks c u n YO)
   rw[g2]at HC
   have w1':IntKind.i64.wrap ((n:Int)+c)=n+c:=IntWalk.i64_in _ (by omega)
   have q0:0<=(n:Int)+c:=by omega
   have q1:(n:Int)<=n+c:=by omega
   have q2:(n:Int)+c<=s.pages.length:=by omega
   clear hq e1 m hm e2 hc hi g2 b4 v hg b1 b2 y2 y3
   go_enter Tryz.func179,Tryz.ntmps179
   go_wp2_with(go_at_call 86;refine Calls.mono hat ?_;rintro e w1 ⟨rfl,u1⟩;(obtain⟨k1,k2,k3,k4,k5⟩:=HC.out _ u1.au);have U1:=Lib.hid u1;clear u1 hat k5)
   obtain⟨k1,k2,k3,k4,k5⟩:=HC.out _ U1.out.au
   have hS0:w1.drew.cell? ⟨p,1,none⟩=some (.int .i64 s.words)/\w1.drew.cell? ⟨p,2,none⟩=some (.slice (some ⟨b,0,none⟩) s.pages.length s.pages.length)/\w1.drew.cell? ⟨b,n*4+1,none⟩=some (.int .i64 g.size):=⟨k1,k2,k4⟩
   refine wp_region_held_drew (S:=fun w'=>w'.cell? ⟨p,1,none⟩=some (.int .i64 s.words)/\w'.cell? ⟨p,2,none⟩=some (.slice (some ⟨b,0,none⟩) s.pages.length s.pages.length)/\w'.cell? ⟨b,n*4+1,none⟩=some (.int .i64 g.size)) (by kernel_rfl) (hS0) (fun hHeld=> ?_)
   refine wpAnyH_take (i:=0) (v:= ?_) rfl (by kernel_rfl) (by kernel_rfl) (by kernel_rfl) (fun _ _ _ h=>h) (Or.inl ⟨by kernel_rfl, ?_⟩) (by assumption) ?_
   rotate_left
   ·(intro w' hSw;(try dsimp only at hSw);go_simp;(try with_reducible rfl))
   try simp only[Act.put,List.setIfInBounds_toArray,List.set_cons_zero,List.set_cons_succ]
   refine wpAnyH_take (i:=1) (v:= ?_) rfl (by kernel_rfl) (by kernel_rfl) (by kernel_rfl) (fun _ _ _ h=>h) (Or.inl ⟨by kernel_rfl, ?_⟩) (by assumption) ?_
   rotate_left
   ·(intro w' hSw;(try dsimp only at hSw);go_simp;(try with_reducible rfl))
   try simp only[Act.put,List.setIfInBounds_toArray,List.set_cons_zero,List.set_cons_succ]
   refine wpAnyH_take (i:=2) (v:= ?_) rfl (by kernel_rfl) (by kernel_rfl) (by kernel_rfl) (fun _ _ _ h=>h) (Or.inl ⟨by kernel_rfl, ?_⟩) (by assumption) ?_
   rotate_left
   ·(intro w' hSw;(try dsimp only at hSw);go_simp;(try with_reducible rfl))
   try simp only[Act.put,List.setIfInBounds_toArray,List.set_cons_zero,List.set_cons_succ]
   refine wpAnyH_take (i:=3) (v:= ?_) rfl (by kernel_rfl) (by kernel_rfl) (by kernel_rfl) (fun _ _ _ h=>h) (Or.inl ⟨by kernel_rfl, ?_⟩) (by assumption) ?_
   rotate_left
   ·(intro w' hSw;(try dsimp only at hSw);go_simp;(try with_reducible rfl))
   try simp only[Act.put,List.setIfInBounds_toArray,List.set_cons_zero,List.set_cons_succ]
   refine wpAnyH_take (i:=4) (v:= ?_) rfl (by kernel_rfl) (by kernel_rfl) (by kernel_rfl) (fun _ _ _ h=>h) (Or.inl ⟨by kernel_rfl, ?_⟩) (by assumption) ?_
   rotate_left
   ·(intro w' hSw;(try dsimp only at hSw);go_simp;(try with_reducible rfl))
   try simp only[Act.put,List.setIfInBounds_toArray,List.set_cons_zero,List.set_cons_succ]
   refine wpAnyH_take (i:=5) (v:= ?_) rfl (by kernel_rfl) (by kernel_rfl) (by kernel_rfl) (fun _ _ _ h=>h) (Or.inl ⟨by kernel_rfl, ?_⟩) (by assumption) ?_
   rotate_left
   ·(intro w' hSw;(try dsimp only at hSw);go_simp;(try with_reducible rfl))
   try simp only[Act.put,List.setIfInBounds_toArray,List.set_cons_zero,List.set_cons_succ]
   refine wpAnyH_take (i:=6) (v:= ?_) rfl (by kernel_rfl) (by kernel_rfl) (by kernel_rfl) (fun _ _ _ h=>h) (Or.inl ⟨by kernel_rfl, ?_⟩) (by assumption) ?_
   rotate_left
   ·(intro w' hSw;(try dsimp only at hSw);go_simp;(try with_reducible rfl))
   try simp only[Act.put,List.setIfInBounds_toArray,List.set_cons_zero,List.set_cons_succ]
   refine wpAnyH_take (i:=7) (v:= ?_) rfl (by kernel_rfl) (by kernel_rfl) (by kernel_rfl) (fun _ _ _ h=>h) (Or.inl ⟨by kernel_rfl, ?_⟩) (by assumption) ?_
   rotate_left
   ·(intro w' hSw;(try dsimp only at hSw);go_simp;(try with_reducible rfl))
   try simp only[Act.put,List.setIfInBounds_toArray,List.set_cons_zero,List.set_cons_succ]
   refine wpAnyH_take (i:=8) (v:= ?_) rfl (by kernel_rfl) (by kernel_rfl) (by kernel_rfl) (fun _ _ _ h=>h) (Or.inl ⟨by kernel_rfl, ?_⟩) (by assumption) ?_
   rotate_left
   ·(intro w' hSw;(try dsimp only at hSw);go_simp;(try with_reducible rfl))
   try simp only[Act.put,List.setIfInBounds_toArray,List.set_cons_zero,List.set_cons_succ]
   refine wpAnyH_take (i:=9) (v:= ?_) rfl (by kernel_rfl) (by kernel_rfl) (by kernel_rfl) (fun _ _ _ h=>h) (Or.inl ⟨by kernel_rfl, ?_⟩) (by assumption) ?_
   rotate_left
   ·(intro w' hSw;(try dsimp only at hSw);go_simp;(try with_reducible rfl))
   try simp only[Act.put,List.setIfInBounds_toArray,List.set_cons_zero,List.set_cons_succ]
   refine wpAnyH_take (i:=10) (v:= ?_) rfl (by kernel_rfl) (by kernel_rfl) (by kernel_rfl) (fun _ _ _ h=>h) (Or.inl ⟨by kernel_rfl, ?_⟩) (by assumption) ?_
   rotate_left
   ·(intro w' hSw;(try dsimp only at hSw);go_simp;(try with_reducible rfl))
   try simp only[Act.put,List.setIfInBounds_toArray,List.set_cons_zero,List.set_cons_succ]
   refine wpAnyH_take (i:=11) (v:= ?_) rfl (by kernel_rfl) (by kernel_rfl) (by kernel_rfl) (fun _ _ _ h=>h) (Or.inl ⟨by kernel_rfl, ?_⟩) (by assumption) ?_
   rotate_left
   ·(intro w' hSw;(try dsimp only at hSw);go_simp;(try with_reducible rfl))
   try simp only[Act.put,List.setIfInBounds_toArray,List.set_cons_zero,List.set_cons_succ]
   refine wpAnyH_ready (rs:=[12]) (by kernel_rfl) (by simp) ?_
   refine AllReadyH.cons (o:=_) rfl (fun K hK=> ?_) AllReadyH.nil
   go_simp
   go_wp2_with(go_at_call 87;refine Calls.mono (Af _) ?_;rintro e w7 ⟨rfl,k7,hk7⟩;have U7:Hid (aj h h w w7):=Lib.hid (by rw[hk7];exact U1.out.drew'.drewN' k7);clear hk7;(obtain⟨z1,z2,z3,z4,z5⟩:=HC.out _ U7.out.au))
   try go_wp2_with fail
   refine hK.out _ _ (⟨z1,z2,z4⟩) (fun hHeld=> ?_)
   clear hK K
   try simp only[Act.put,List.setIfInBounds_toArray,List.set_cons_zero,List.set_cons_succ]
   refine wpAnyH_take (i:=13) (v:= ?_) rfl (by kernel_rfl) (by kernel_rfl) (by kernel_rfl) (fun _ _ _ h=>h) (Or.inl ⟨by kernel_rfl, ?_⟩) (by assumption) ?_
   rotate_left
   ·(intro w' hSw;(try dsimp only at hSw);go_simp;(try with_reducible rfl))
   try simp only[Act.put,List.setIfInBounds_toArray,List.set_cons_zero,List.set_cons_succ]
   refine wpAnyH_done (by kernel_rfl) ?_ _
   go_simp
   have hcl:=HCL.out _ U7.out.au
   have ens:((n:Int)+c).toNat=n+c:=by omega
   have ens2:n+c-n=c:=by omega
   clear HCL z1 z3 z4 z5 k1 k2 k3 k4 k5 hS0
   go_wp2
   go_ret
   obtain⟨rows',h',m',u'⟩:=HB.out _ U7.out
   exact⟨rfl,h',m'.MG,u'⟩
  ·have hkl:k<g.used.length:=(List.getElem?_eq_some_iff.1 hu).1
   have hk256:g.used.length<=1048576:=by
    obtain⟨va,hp,hr,hok⟩:=m.row hg
    exact hok.2
   have e2:s.tq n k g=s.BR n (g.use k false):=by unfold aP.tq;rw[if_neg (by omega)]
   rw[e2]
   have WJ:Hid (∀W (hW:In W h),∃gb off cap,W.cell? ⟨b,n*4+2,none⟩=some (.slice (some ⟨gb,off,none⟩) g.used.length cap)/\ (∃x,W.cell? ⟨gb,off+k,none⟩=some x)/\W.frozen? ⟨gb,off+k,none⟩=false/\
    ∃rows' h',bn p b rows' (s.bu n (g.use k false)) h'/\aj h h' W (W.setCell ⟨gb,off+k,none⟩ (.bool false))):=Lib.hid (fun W hW=>m.Si hW hg hkl false)
   have hg2:(s.bu n (g.use k false)).pages[n]? =some (g.use k false):=by
    show(s.pages.set n _)[n]? =_
    rw[List.getElem?_set_self hnl]
   have HN:=Lib.hid (fun rows' W h' (hW:In W h') (m':bn p b rows' (s.bu n (g.use k false)) h')=>NP p b rows' _ n _ W h' hW m' hg2)
   have HC2:Hid (∀rows' W h',In W h'->bn p b rows' (s.bu n (g.use k false)) h'->W.cell? ⟨p,2,none⟩=some (.slice (some ⟨b,0,none⟩) s.pages.length s.pages.length)):=Lib.hid (by
    intro rows' W h' hW m'
    have:=(m'.cells hW).2.2
    have e:(s.bu n (g.use k false)).pages.length=s.pages.length:=by simp[aP.bu]
    rw[e]at this
    exact this)
   have HBl:=Lib.hid (fun rows' W h' (u:aj h h' w W) (m':bn p b rows' (s.bu n (g.use k false)) h')=>m'.blank u hg2 yC rfl)
   have HBf:=Lib.hid (fun rows' W h' (hW:In W h') (m':bn p b rows' (s.bu n (g.use k false)) h')=>m'.wM hW hg2)
   have g2':(g.kind==2)=false:=by simp[g1]
   have hset:Hid ((s.bu n (g.use k false)).bu n yC=s.bu n yC):=Lib.hid (by simp[aP.bu])
   rw[g1]at HC
   generalize hS':s.bu n (g.use k false)=S' at*
   clear hq e1 m hm e2 hi v hg g1 hu g2' hg2
   cases hnt:noT (g.use k false).used
   ·have e3:s.BR n (g.use k false)=S':=by unfold aP.BR;rw[hnt,hS'];rfl
    rw[e3]
    rw[hnt]at HN
    clear e3 hS' hnt
    go_enter Tryz.func179,Tryz.ntmps179
    go_wp2_with(go_at_call 86;refine Calls.mono hat ?_;rintro e w1 ⟨rfl,u1⟩;(obtain⟨k1,k2,k3,k4,k5⟩:=HC.out _ u1.au);(obtain⟨gb,off,cap,x2,⟨xo,xc⟩,xf,oV,h1,m1,u2⟩:=WJ.out _ u1.au);have k2':=HC2.out _ _ _ u2.au m1;have hno:=HN.out _ _ _ u2.au m1;have M1:=Lib.hid m1;have U2:=Lib.hid (u1.trans u2);clear u1 hat k5 m1 u2)
    go_wp2_with(go_at_call 192;refine Calls.mono hno ?_;rintro e w3 ⟨rfl,rfl⟩;clear hno)
    go_ret
    exact⟨rfl,h1,M1.out.MG,U2.out⟩
   ·have e3:s.BR n (g.use k false)=S'.bu n yC:=by unfold aP.BR;rw[hnt,hset.out];rfl
    rw[e3]
    rw[hnt]at HN
    clear e3 hS' hnt
    go_enter Tryz.func179,Tryz.ntmps179
    go_wp2_with(first
     | (go_at_call 86;refine Calls.mono hat ?_;rintro e w1 ⟨rfl,u1⟩;(obtain⟨k1,k2,k3,k4,k5⟩:=HC.out _ u1.au);(obtain⟨gb,off,cap,x2,⟨xo,xc⟩,xf,oV,h1,m1,u2⟩:=WJ.out _ u1.au);have k2':=HC2.out _ _ _ u2.au m1;have hno:=HN.out _ _ _ u2.au m1;have M1:=Lib.hid m1;have U2:=Lib.hid (u1.trans u2);(obtain⟨⟨y0,d0⟩,⟨y1,d1⟩,⟨y2,d2⟩,⟨y3,d3⟩,hf⟩:=HBf.out _ _ _ u2.au m1);have f0:=hf (n*4);have f1:=hf (n*4+1);have f2:=hf (n*4+2);have f3:=hf (n*4+3);clear u1 hat k5 m1 u2 hf)
     | (go_at_call 192;refine Calls.mono hno ?_;rintro e w3 ⟨rfl,rfl⟩;clear hno))
    go_ret
    obtain⟨rows',h',m',u'⟩:=HBl.out _ _ _ U2.out M1.out
    exact⟨rfl,h',m'.MG,u'⟩
end Go.Proofs.YtibemcgdmembeaaGreat
namespace Go.Proofs.YtibemcgdmembeaaGreat
open Go.RowKit
theorem FC(pc:Nat)(L:aX)(s:af)(w:World)(h:Hp)(hi:In w h)(hc:ah pc L s h):
  Calls Tryz.prog 177 #[.pointer (some ⟨L.po,0,none⟩)] w fun e w'=>e= .returned (.tuple #[.int .i64 (yH s.o.qA), .bool s.o.qA.isSome])/\w'=w:=by
 obtain⟨v,ha',hy,ho,hr,hg,ht,hw,rfl,ca,cy,co,cr,cg,ct,cw⟩:=hc
 exact BP L.po s.o w ho (In.old (x:=[]) hi) co
theorem JX(pc:Nat)(L:aX)(s:af)(w:World)(h:Hp)(hi:In w h)(hc:ah pc L s h):
  Calls Tryz.prog 33 #[.pointer (some ⟨L.po,0,none⟩)] w fun e w'=>e= .returned (.int .i64 (lF s.o.pages))/\w'=w:=by
 obtain⟨v,ha',hy,ho,hr,hg,ht,hw,rfl,ca,cy,co,cr,cg,ct,cw⟩:=hc
 exact Ht L.po s.o w ho (In.old (x:=[]) hi) co
theorem Es(pc:Nat)(L:aX)(s:af)(n:Nat)(w:World)(h:Hp)(hi:In w h)(hc:ah pc L s h)(hn:n<s.o.pages.length):
  Calls Tryz.prog 178 #[.pointer (some ⟨L.po,0,none⟩), .int .i64 n] w fun e w'=>e= .returned (.tuple #[.int .i64 (s.o.begin n), .int .i64 (s.o.begin n+s.o.words)])/\aj h h w w':=by
 obtain⟨v,ha',hy,ho,hr,hg,ht,hw,rfl,ca,cy,co,cr,cg,ct,cw⟩:=hc
 exact Calls.mono (Hu L.po s.o n w ho (In.old (x:=[]) hi) co hn) fun e w' hh=>⟨hh.1,aj.old (x:=[]) (aj.refl hi) hh.2⟩
theorem FD(p:Nat)(s:aP)(n:Nat)(w:World)(h:Hp)(hi:In w h)(hm:eF p s h)(hn:s.pages.length<=n)(hn2:n<=64):
  Calls Tryz.prog 178 #[.pointer (some ⟨p,0,none⟩), .int .i64 n] w fun e w'=>e= .returned (.tuple #[.int .i64 0, .int .i64 0])/\aj h h w w':=by
 obtain⟨b,rows,m⟩:=hm.rows
 obtain⟨c0,c1,c2⟩:=m.cells hi
 obtain⟨a1,a2,a3,a4,a5⟩:=m.2.2.2
 have HU:=Lib.hid (aj.refl hi)
 clear m hm hi
 go_enter Tryz.func178,Tryz.ntmps178
 go_wp2
 go_ret2
 exact⟨rfl,HU.out⟩
theorem FH(pc:Nat)(L:aX)(s:af)(n:Nat)(h:Hp)(hc:ah pc L s h)(hv:s.o.V)(hn:n<=64):
  ∃B B2,s.o.starts B B2=s.o.starts (s.o.begin n) (s.o.begin n+s.o.words)/\ ∀w,In w h->Calls Tryz.prog 178 #[.pointer (some ⟨L.po,0,none⟩), .int .i64 n] w fun e w'=>e= .returned (.tuple #[.int .i64 B, .int .i64 B2])/\aj h h w w':=by
 by_cases hl:n<s.o.pages.length
 ·exact⟨_,_,rfl,fun w hi=>Es pc L s n w h hi hc hl⟩
 ·refine⟨0,0, ?_,fun w hi=> ?_⟩
  ·have e1:s.o.starts 0 0=[]:=by
    refine List.eq_nil_iff_forall_not_mem.2 fun a ha=> ?_
    have:=(nO hv).1 ha
    omega
   have e2:s.o.starts (s.o.begin n) (s.o.begin n+s.o.words)=[]:=by
    refine List.eq_nil_iff_forall_not_mem.2 fun a ha=> ?_
    obtain⟨q1,q2,q3⟩:=(nO hv).1 ha
    obtain⟨z,hz⟩:=Option.isSome_iff_exists.1 q3
    have h2:=rq hv hz
    have h3:(s.o.pages.length:Int)*s.o.words<=(n:Int)*s.o.words:=Int.mul_le_mul_of_nonneg_right (by omega) (by have:=hv.w16;omega)
    unfold aP.begin at q1
    omega
   rw[e1,e2]
  ·obtain⟨v,ha',hy,ho,hr,hg,ht,hw,rfl,ca,cy,co,cr,cg,ct,cw⟩:=hc
   exact Calls.mono (FD L.po s.o n w ho (In.old (x:=[]) hi) co (by omega) hn) fun e w' hh=>⟨hh.1,aj.old (x:=[]) (aj.refl hi) hh.2⟩
theorem NR(pc:Nat)(L:aX)(s:af)(n:Nat)(w:World)(h:Hp)(hi:In w h)(hc:ah pc L s h)(hn:n<s.o.pages.length):
  Calls Tryz.prog 180 #[.pointer (some ⟨L.po,0,none⟩), .int .i64 n] w fun e w'=>(∃q,e= .returned (.bool q))/\ ∃h',ah pc L {s with o:=s.o.uS n} h'/\aj h h' w w':=by
 obtain⟨v,ha',hy,ho,hr,hg,ht,hw,rfl,ca,cy,co,cr,cg,ct,cw⟩:=hc
 refine Calls.mono (Hw L.po s.o n w ho (In.old (x:=[]) hi) co hn) fun e w' hh=> ?_
 obtain⟨he,ho',WL,u⟩:=hh
 exact⟨he,_,⟨v,ha',hy,ho',hr,hg,ht,hw,rfl,ca,cy,WL,cr,cg,ct,cw⟩,aj.old (x:=[]) (aj.refl hi) u⟩
theorem NS(pc:Nat)(L:aX)(s:af)(w:World)(h:Hp)(hi:In w h)(hc:ah pc L s h):
  Calls Tryz.prog 176 #[.pointer (some ⟨L.po,0,none⟩)] w fun e w'=>e= .returned (.tuple #[])/\ ∃h',ah pc L {s with o:=s.o.pend} h'/\aj h h' w w':=by
 obtain⟨v,ha',hy,ho,hr,hg,ht,hw,rfl,ca,cy,co,cr,cg,ct,cw⟩:=hc
 refine Calls.mono (Hy L.po s.o w ho (In.old (x:=[]) hi) co) fun e w' hh=> ?_
 obtain⟨he,ho',WL,u⟩:=hh
 exact⟨he,_,⟨v,ha',hy,ho',hr,hg,ht,hw,rfl,ca,cy,WL,cr,cg,ct,cw⟩,aj.old (x:=[]) (aj.refl hi) u⟩
theorem NT(pc:Nat)(L:aX)(s:af)(a:Int)(w:World)(h:Hp)(hi:In w h)(hc:ah pc L s h)(hv:s.o.V)(ha:I64 a):
  Calls Tryz.prog 179 #[.pointer (some ⟨L.po,0,none⟩), .int .i64 a] w fun e w'=>(∃q,e= .returned (.bool q))/\ ∃h',ah pc L {s with o:=s.o.give a} h'/\aj h h' w w':=by
 obtain⟨v,ha',hy,ho,hr,hg,ht,hw,rfl,ca,cy,co,cr,cg,ct,cw⟩:=hc
 refine Calls.mono (H6 L.po s.o a w ho (In.old (x:=[]) hi) co hv ha) fun e w' hh=> ?_
 obtain⟨he,ho',WL,u⟩:=hh
 exact⟨⟨_,he⟩,_,⟨v,ha',hy,ho',hr,hg,ht,hw,rfl,ca,cy,WL,cr,cg,ct,cw⟩,aj.old (x:=[]) (aj.refl hi) u⟩
theorem Cb(pc:Nat)(L:aX)(s:af)(w:World)(h:Hp)(hi:In w h)(hc:ah pc L s h):
  Calls Tryz.prog 174 #[.pointer (some ⟨L.pg,0,none⟩)] w fun e w'=>e= .returned (.bool s.g.lost)/\w'=w:=by
 obtain⟨v,ha',hy,ho,hr,hg,ht,hw,rfl,ca,cy,co,cr,cg,ct,cw⟩:=hc
 exact NM L.pg s.g w hg (In.dh (x:=[]) hi) cg
theorem qR{pc:Nat}{L:aX}{s:af}{h h0:Hp}{w w0:World}(hc:ah pc L s h)(u0:aj h0 h w0 w)(u:Int): ∃h',ah pc L {s with look:=u} h'/\aj h0 h' w0 (w.setCell ⟨pc,24,none⟩ (.int .i64 u)):=by
 obtain⟨v,ha',hy,ho,hr,hg,ht,hw,rfl,ca,cy,co,cr,cg,ct,cw⟩:=hc
 exact⟨_,⟨v,ha',hy,ho,hr,hg,ht,hw,rfl,ca,cy,co,cr,cg,ct,cw⟩,aj.Ep (x:=[]) u0 u⟩
theorem pY{pc:Nat}{L:aX}{s:af}{h h0:Hp}{w w0:World}(hc:ah pc L s h)(u0:aj h0 h w0 w)(u:Int): ∃h',ah pc L {s with phase:=u} h'/\aj h0 h' w0 (w.setCell ⟨pc,20,none⟩ (.int .i64 u)):=by
 obtain⟨v,ha',hy,ho,hr,hg,ht,hw,rfl,ca,cy,co,cr,cg,ct,cw⟩:=hc
 exact⟨_,⟨v,ha',hy,ho,hr,hg,ht,hw,rfl,ca,cy,co,cr,cg,ct,cw⟩,aj.JY (x:=[]) u0 u⟩
theorem zY{pc:Nat}{L:aX}{s:af}{h h0:Hp}{w w0:World}(hc:ah pc L s h)(u0:aj h0 h w0 w)(u:Int): ∃h',ah pc L {s with parity:=u} h'/\aj h0 h' w0 (w.setCell ⟨pc,19,none⟩ (.int .i64 u)):=by
 obtain⟨v,ha',hy,ho,hr,hg,ht,hw,rfl,ca,cy,co,cr,cg,ct,cw⟩:=hc
 exact⟨_,⟨v,ha',hy,ho,hr,hg,ht,hw,rfl,ca,cy,co,cr,cg,ct,cw⟩,aj.H8 (x:=[]) u0 u⟩
theorem zZ{pc:Nat}{L:aX}{s:af}{h h0:Hp}{w w0:World}(hc:ah pc L s h)(u0:aj h0 h w0 w)(u:Int): ∃h',ah pc L {s with done:={s.done with qP:=u}} h'/\aj h0 h' w0 (w.setCell ⟨pc,30,none⟩ (.int .i64 u)):=by
 obtain⟨v,ha',hy,ho,hr,hg,ht,hw,rfl,ca,cy,co,cr,cg,ct,cw⟩:=hc
 exact⟨_,⟨v,ha',hy,ho,hr,hg,ht,hw,rfl,ca,cy,co,cr,cg,ct,cw⟩,aj.H9 (x:=[]) u0 u⟩
structure WM(pc:Nat)(L:aX)(s:af)(w:World):Prop where
 c2:w.cell? ⟨pc,2,none⟩=some (.int .i64 s.C.pages)
 po:w.cell? ⟨pc,15,none⟩=some (.pointer (some ⟨L.po,0,none⟩))
 pg:w.cell? ⟨pc,17,none⟩=some (.pointer (some ⟨L.pg,0,none⟩))
 pt:w.cell? ⟨pc,18,none⟩=some (.pointer (some ⟨L.pt,0,none⟩))
 par:w.cell? ⟨pc,19,none⟩=some (.int .i64 s.parity)
 ph:w.cell? ⟨pc,20,none⟩=some (.int .i64 s.phase)
 lk:w.cell? ⟨pc,24,none⟩=some (.int .i64 s.look)
 mj:w.cell? ⟨pc,30,none⟩=some (.int .i64 s.done.qP)
 fz: ∀i,w.frozen? ⟨pc,i,none⟩=false
theorem ah.vU{pc:Nat}{L:aX}{s:af}{h:Hp}{w:World}(hc:ah pc L s h)(hi:In w h):WM pc L s w:=by
 obtain⟨v,ha',hy,ho,hr,hg,ht,hw,rfl,ca,cy,co,cr,cg,ct,cw⟩:=hc
 have H:=In.core (x:=[]) hi
 exact⟨cell_of H 2,cell_of H 15,cell_of H 17,cell_of H 18,cell_of H 19,cell_of H 20,cell_of H 24,cell_of H 30,fun i=>aZ H i⟩
theorem Et(a0 a1 a2 a3:Int)(b0 b1 b2:Bool)(w:World):Sem.run Tryz.prog (Instr.field 92 (.agg #[.int .i64 a0, .int .i64 a1, .int .i64 a2, .int .i64 a3, .bool b0, .bool b1, .bool b2]) 4) w= .ok (.bool b0) w:=by
 simp[go_sem,Instr.field,asAgg,Tryz.underlying92]
theorem H_(a0 a1 a2 a3:Int)(b0 b1 b2:Bool)(w:World):Sem.run Tryz.prog (Instr.field 92 (.agg #[.int .i64 a0, .int .i64 a1, .int .i64 a2, .int .i64 a3, .bool b0, .bool b1, .bool b2]) 3) w= .ok (.int .i64 a3) w:=by
 simp[go_sem,Instr.field,asAgg,Tryz.underlying92]
theorem NU(a0 a1 a2 a3:Int)(b0 b1 b2:Bool)(w:World):Sem.run Tryz.prog (Instr.field 92 (.agg #[.int .i64 a0, .int .i64 a1, .int .i64 a2, .int .i64 a3, .bool b0, .bool b1, .bool b2]) 1) w= .ok (.int .i64 a1) w:=by
 simp[go_sem,Instr.field,asAgg,Tryz.underlying92]
theorem Cc{pc:Nat}{L:aX}{s:af}{h:Hp}(hc:ah pc L s h)(ok:s.o.Ok)(lo hi:Int):(s.o.starts lo hi).length<=16384:=by
 have h1:=jO ok lo hi s.o.pages.length
 obtain⟨v,ha',hy,ho,hr,hg,ht,hw',rfl,ca,cy,co,cr,cg,ct,cw⟩:=hc
 obtain⟨b,rows,m⟩:=co.rows
 obtain⟨a1,a2,a3,a4,a5⟩:=m.2.2.2
 show(s.o.bJ lo hi s.o.pages.length).length<=_
 omega
theorem drop_cons{l:List Int}{j:Nat}(h:j<l.length):l.drop j=l.getD j 0::l.drop (j+1):=by
 rw[List.drop_eq_getElem_cons h,List.getD_eq_getElem?_getD,List.getElem?_eq_getElem h]
 rfl
theorem JZ(pc:Nat)(L:aX)(s:af)(w:World)(h:Hp)(hi:In w h)(hc:ah pc L s h)(hpar:s.parity=0∨s.parity=1)(hv:s.o.V)(hl0:0<=s.look)(hl1:s.look<=64)(hC:s.C.pages<=1048576):
  Calls Tryz.prog 173 #[ptr pc] w fun e w'=>e= .returned (.int .i64 s.BX)/\ ∃h',ah pc L s.uV h'/\aj h h' w w':=by
 obtain⟨n,hn⟩: ∃n:Nat,s.look=n:=⟨s.look.toNat,by omega⟩
 have hn0:n<=64:=by omega
 obtain⟨B,B2,hBB,WN⟩:=FH pc L s n h hc hv hn0
 have J3:=fun W h (hW:In W h) (hc:ah pc L s h)=>uK pc L s B B2 W h hW hc hv.ok
 have hlen:=Cc hc hv.ok B B2
 have Sj:s.dO=s.o.starts B B2:=by unfold af.dO;rw[hn,Int.toNat_natCast,hBB]
 have HE:Hid (s.uV=(nK s.dO s).Eo/\s.BX=1+nU s.dO s):=Lib.hid ⟨rfl,rfl⟩
 have XF:=wZ s.dO s
 have hbd:=lU s.dO s
 rw[<-Sj]at J3 hlen
 obtain⟨R,hR⟩: ∃R,R=nK s.dO s:=⟨_,rfl⟩
 obtain⟨T,hT⟩: ∃T,T=1+nU s.dO s:=⟨_,rfl⟩
 rw[<-hR]at XF
 rw[HE.out.1,HE.out.2,<-hR,<-hT]
 have hT1:T<=2000000:=by omega
 have H0:Hid (R=nK (s.dO.drop 0) s/\T=1+nU (s.dO.drop 0) s/\ (s.parity=0∨s.parity=1)):=Lib.hid ⟨hR,hT,hpar⟩
 have hT0:1<=T:=by omega
 have WO:R.look=n:=by rw[XF.look,hn]
 have YP:R.C.pages=s.C.pages:=by rw[XF.C]
 have hEE:Hid (R.Eo={R with look:=if s.C.pages<=(n:Int)+1 then-1 else(n:Int)+1}):=Lib.hid (by unfold af.Eo;rw[WO,YP])
 have Vr:=Lib.hid (fun S a W h (hW:In W h) (hc:ah pc L S h) (hp:S.parity=0∨S.parity=1)=>qO pc L S a W h hW hc hp)
 have NJ:=Lib.hid (fun S a W h (hW:In W h) (hc:ah pc L S h)=>kY pc L S a W h hW hc)
 have Le:=Lib.hid (fun S W h (hW:In W h) (hc:ah pc L S h)=>ah.vU hc hW)
 have M0:=hc.vU hi
 have k15:=M0.po
 have k24:=M0.lk
 rw[hn]at k24
 have hS0:w.drew.cell? ⟨pc,15,none⟩=some (.pointer (some ⟨L.po,0,none⟩))/\w.drew.cell? ⟨pc,24,none⟩=some (.int .i64 n):=⟨k15,k24⟩
 have Dq:=Lib.hid hc
 have TZ:=Lib.hid (aj.refl hi)
 have WQ:=Lib.hid WN
 have hlk:=Lib.hid (fun(S:af) W (m:WM pc L S W) (e:S.look=n)=>(by have:=m.lk;rw[e]at this;exact this:W.cell? ⟨pc,24,none⟩=some (.int .i64 n)))
 clear hR hT Sj XF hbd M0 hc hi WN hpar hv hl0 hl1 hBB
 generalize s.dO=l at*
 simp only[ptr]at*
 go_enter Tryz.func173,Tryz.ntmps173
 go_wp2
 refine wp_region_held_drew (S:=fun w'=>w'.cell? ⟨pc,15,none⟩=some (.pointer (some ⟨L.po,0,none⟩))/\w'.cell? ⟨pc,24,none⟩=some (.int .i64 n)) (by kernel_rfl) (hS0) (fun hHeld=> ?_)
 refine wpAnyH_take (i:=0) (v:= ?_) rfl (by kernel_rfl) (by kernel_rfl) (by kernel_rfl) (fun _ _ _ h=>h) (Or.inl ⟨by kernel_rfl, ?_⟩) (by assumption) ?_
 rotate_left
 ·(intro w' hSw;(try dsimp only at hSw);go_simp;(try with_reducible rfl))
 try simp only[Act.put,List.setIfInBounds_toArray,List.set_cons_zero,List.set_cons_succ]
 refine wpAnyH_take (i:=1) (v:= ?_) rfl (by kernel_rfl) (by kernel_rfl) (by kernel_rfl) (fun _ _ _ h=>h) (Or.inl ⟨by kernel_rfl, ?_⟩) (by assumption) ?_
 rotate_left
 ·(intro w' hSw;(try dsimp only at hSw);go_simp;(try with_reducible rfl))
 try simp only[Act.put,List.setIfInBounds_toArray,List.set_cons_zero,List.set_cons_succ]
 refine wpAnyH_take (i:=2) (v:= ?_) rfl (by kernel_rfl) (by kernel_rfl) (by kernel_rfl) (fun _ _ _ h=>h) (Or.inl ⟨by kernel_rfl, ?_⟩) (by assumption) ?_
 rotate_left
 ·(intro w' hSw;(try dsimp only at hSw);go_simp;(try with_reducible rfl))
 try simp only[Act.put,List.setIfInBounds_toArray,List.set_cons_zero,List.set_cons_succ]
 refine wpAnyH_take (i:=3) (v:= ?_) rfl (by kernel_rfl) (by kernel_rfl) (by kernel_rfl) (fun _ _ _ h=>h) (Or.inl ⟨by kernel_rfl, ?_⟩) (by assumption) ?_
 rotate_left
 ·(intro w' hSw;(try dsimp only at hSw);go_simp;(try with_reducible rfl))
 try simp only[Act.put,List.setIfInBounds_toArray,List.set_cons_zero,List.set_cons_succ]
 refine wpAnyH_take (i:=4) (v:= ?_) rfl (by kernel_rfl) (by kernel_rfl) (by kernel_rfl) (fun _ _ _ h=>h) (Or.inl ⟨by kernel_rfl, ?_⟩) (by assumption) ?_
 rotate_left
 ·(intro w' hSw;(try dsimp only at hSw);go_simp;(try with_reducible rfl))
 try simp only[Act.put,List.setIfInBounds_toArray,List.set_cons_zero,List.set_cons_succ]
 refine wpAnyH_take (i:=5) (v:= ?_) rfl (by kernel_rfl) (by kernel_rfl) (by kernel_rfl) (fun _ _ _ h=>h) (Or.inl ⟨by kernel_rfl, ?_⟩) (by assumption) ?_
 rotate_left
 ·(intro w' hSw;(try dsimp only at hSw);go_simp;(try with_reducible rfl))
 try simp only[Act.put,List.setIfInBounds_toArray,List.set_cons_zero,List.set_cons_succ]
 refine wpAnyH_take (i:=6) (v:= ?_) rfl (by kernel_rfl) (by kernel_rfl) (by kernel_rfl) (fun _ _ _ h=>h) (Or.inl ⟨by kernel_rfl, ?_⟩) (by assumption) ?_
 rotate_left
 ·(intro w' hSw;(try dsimp only at hSw);go_simp;(try with_reducible rfl))
 try simp only[Act.put,List.setIfInBounds_toArray,List.set_cons_zero,List.set_cons_succ]
 refine wpAnyH_take (i:=7) (v:= ?_) rfl (by kernel_rfl) (by kernel_rfl) (by kernel_rfl) (fun _ _ _ h=>h) (Or.inl ⟨by kernel_rfl, ?_⟩) (by assumption) ?_
 rotate_left
 ·(intro w' hSw;(try dsimp only at hSw);go_simp;(try with_reducible rfl))
 try simp only[Act.put,List.setIfInBounds_toArray,List.set_cons_zero,List.set_cons_succ]
 refine wpAnyH_ready (rs:=[8]) (by kernel_rfl) (by simp) ?_
 refine AllReadyH.cons (o:=_) rfl (fun K hK=> ?_) AllReadyH.nil
 go_simp
 go_wp2_with(go_at_call 178;refine Calls.mono (WQ.out _ TZ.out.drew'.au) ?_;rintro e w3 ⟨rfl,u3⟩;have U3:=Lib.hid (TZ.out.drew'.trans u3);have M3:=Le.out _ _ _ u3.au Dq.out;have YQ:=M3.po;have z24:=hlk.out _ _ M3 hn;clear M3 u3)
 try go_wp2_with fail
 refine hK.out _ _ (⟨YQ,z24⟩) (fun hHeld=> ?_)
 clear hK K
 try simp only[Act.put,List.setIfInBounds_toArray,List.set_cons_zero,List.set_cons_succ]
 refine wpAnyH_take (i:=9) (v:= ?_) rfl (by kernel_rfl) (by kernel_rfl) (by kernel_rfl) (fun _ _ _ h=>h) (Or.inl ⟨by kernel_rfl, ?_⟩) (by assumption) ?_
 rotate_left
 ·(intro w' hSw;(try dsimp only at hSw);go_simp;(try with_reducible rfl))
 try simp only[Act.put,List.setIfInBounds_toArray,List.set_cons_zero,List.set_cons_succ]
 refine wpAnyH_take (i:=10) (v:= ?_) rfl (by kernel_rfl) (by kernel_rfl) (by kernel_rfl) (fun _ _ _ h=>h) (Or.inl ⟨by kernel_rfl, ?_⟩) (by assumption) ?_
 rotate_left
 ·(intro w' hSw;(try dsimp only at hSw);go_simp;(try with_reducible rfl))
 try simp only[Act.put,List.setIfInBounds_toArray,List.set_cons_zero,List.set_cons_succ]
 refine wpAnyH_take (i:=11) (v:= ?_) rfl (by kernel_rfl) (by kernel_rfl) (by kernel_rfl) (fun _ _ _ h=>h) (Or.inl ⟨by kernel_rfl, ?_⟩) (by assumption) ?_
 rotate_left
 ·(intro w' hSw;(try dsimp only at hSw);go_simp;(try with_reducible rfl))
 try simp only[Act.put,List.setIfInBounds_toArray,List.set_cons_zero,List.set_cons_succ]
 refine wpAnyH_take (i:=12) (v:= ?_) rfl (by kernel_rfl) (by kernel_rfl) (by kernel_rfl) (fun _ _ _ h=>h) (Or.inl ⟨by kernel_rfl, ?_⟩) (by assumption) ?_
 rotate_left
 ·(intro w' hSw;(try dsimp only at hSw);go_simp;(try with_reducible rfl))
 try simp only[Act.put,List.setIfInBounds_toArray,List.set_cons_zero,List.set_cons_succ]
 refine wpAnyH_take (i:=13) (v:= ?_) rfl (by kernel_rfl) (by kernel_rfl) (by kernel_rfl) (fun _ _ _ h=>h) (Or.inl ⟨by kernel_rfl, ?_⟩) (by assumption) ?_
 rotate_left
 ·(intro w' hSw;(try dsimp only at hSw);go_simp;(try with_reducible rfl))
 try simp only[Act.put,List.setIfInBounds_toArray,List.set_cons_zero,List.set_cons_succ]
 refine wpAnyH_done (by kernel_rfl) ?_ _
 go_simp
 have hst:=J3 _ _ U3.out.au Dq.out
 clear hS0 k24
 go_wp2_with(go_at_call 167;refine Calls.mono hst ?_;rintro e w4 ⟨v4,h4,rfl,s4,u4⟩;have U4:=Lib.hid (U3.out.trans u4);(obtain⟨ao,cap,rfl,hcap⟩:=s4.shape);have YR:=Lib.hid s4;clear s4 u4 hst)
 have H4:Hid (∃S h',R=nK (l.drop 0) S/\T=1+nU (l.drop 0) S/\ (S.parity=0∨S.parity=1)/\ah pc L S h'/\aj h (h4++h') w w4):=Lib.hid ⟨s,h,H0.out.1,H0.out.2.1,H0.out.2.2,Dq.out,U4.out⟩
 clear J3 WQ U3 YQ z24 hHeld H0 TZ k15 HE
 go_loopw [3,28] (fun d i wr=> ∃(dn:Int) (j:Nat),j<=l.length/\0<=dn/\dn<=T/\d= .int .i64 dn/\i= .int .i64 j/\Hid (∃S h',R=nK (l.drop j) S/\T=dn+nU (l.drop j) S/\ (S.parity=0∨S.parity=1)/\ah pc L S h'/\aj h (h4++h') w wr)) (fun _ i _=>l.length-(intOf i).toNat)
 case atStart=>exact⟨1,0,by omega,by omega,by omega,rfl,rfl,H4⟩
 case round=>
  obtain⟨dn,j,hj,hd0,hd1,rfl,rfl,HJ⟩:=hrel
  obtain⟨S,hk,r1,r2,r3,ck,uk⟩:=HJ.out
  by_cases hjl:j<l.length
  ·obtain⟨gb,off,rfl,hcj⟩:=aK.nH (kd:= .i64) YR.out uk.au.left hjl
   rw[drop_cons hjl]at r1 r2
   simp only[nK,nU]at r1 r2
   have hb:=lU (l.drop (j+1)) (S.jC (l.getD j 0))
   have hmb:=jK S (l.getD j 0)
   have hhd:=NJ.out S (l.getD j 0) wr hk uk.au.right ck
   have hth:=fun W h (hW:In W h) (hc:ah pc L S h)=>Vr.out S (l.getD j 0) W h hW hc r3
   have hpp:(S.jC (l.getD j 0)).parity=0∨(S.jC (l.getD j 0)).parity=1:=by rw[(yj S _).parity];exact r3
   have T_:=Lib.hid hpp
   have HR1:=Lib.hid r1
   have HU:=Lib.hid uk
   have Jq:=Lib.hid hth
   have hon:S.yh (l.getD j 0)=if(ag S.ws (l.getD j 0)).dh=true then S.jB (l.getD j 0)+1 else 1:=rfl
   have hone:Hid (S.jC (l.getD j 0)=if(ag S.ws (l.getD j 0)).dh=true then S.jJ (l.getD j 0)else S):=Lib.hid rfl
   clear r1 uk ck HJ hth hpp r3
   generalize l.getD j 0=a at*
   generalize hrn:nU (l.drop (j+1)) (S.jC a)=rn at*
   have Pq:=Lib.hid hrn
   clear hrn
   generalize S.jB a=tn at*
   generalize S.yh a=on at*
   generalize ag S.ws a=H at*
   obtain⟨x1,x2,x3,x4,x5,x6,x7⟩:=H
   simp only[aF]at*
   cases x5
   ·have e1:on=1:=by rw[hon];rfl
    have e2:Hid (S.jC a=S):=Lib.hid (by rw[hone.out];rfl)
    have hF:=fun W=>Et x1 x2 x3 x4 false x6 x7 W
    have HD:=Lib.hid r2
    clear hon hone r2
    go_wp2_with(go_at_call 59;refine Calls.mono hhd ?_;rintro e w5 ⟨rfl,h5,c5,u5⟩;have hf:=hF w5;have U5:=Lib.hid (aj.fM HU.out u5);have C5:=Lib.hid c5;clear u5 c5 hhd hF)
    go_roundw
    case rel=>exact⟨dn+1,j+1,by omega,by omega,by have:=HD.out;omega,by go_num,by go_num,Lib.hid ⟨S.jC a,h5,HR1.out,by have h1:=HD.out;have h2:=Pq.out;omega,T_.out,by rw[e2.out];exact C5.out,U5.out⟩⟩
    case measure=>simp[intOf];omega
   ·have e1:on=tn+1:=by rw[hon];rfl
    have e2:Hid (S.jC a=S.jJ a):=Lib.hid (by rw[hone.out];rfl)
    have hF:=fun W=>Et x1 x2 x3 x4 true x6 x7 W
    have HD:=Lib.hid r2
    clear hon hone r2
    go_wp2_with(first
     | (go_at_call 59;refine Calls.mono hhd ?_;rintro e w5 ⟨rfl,h5,c5,u5⟩;have hf:=hF w5;have U5:=Lib.hid (aj.fM HU.out u5);have C5:=Lib.hid c5;clear u5 c5 hhd hF)
     | (go_at_call 172;refine Calls.mono (Jq.out _ _ U5.out.au.right C5.out) ?_;rintro e w6 ⟨rfl,h6,c6,u6⟩;have U6:=Lib.hid (aj.fM U5.out u6);have C6:=Lib.hid c6;clear u6 c6))
    go_roundw
    case rel=>exact⟨dn+(tn+1),j+1,by omega,by omega,by have:=HD.out;omega,by go_num,by go_num,Lib.hid ⟨S.jC a,h6,HR1.out,by have h1:=HD.out;have h2:=Pq.out;omega,T_.out,by rw[e2.out];exact C6.out,U6.out⟩⟩
    case measure=>simp[intOf];omega
  ·rw[List.drop_of_length_le (by omega)]at r1 r2
   have e1:R=S:=r1
   have e2:T=dn:=by
    have:nU [] S=0:=rfl
    rw[this]at r2
    omega
   subst e1
   have Jt:=uk.forget (List.sublist_append_right _ _)
   have M4:=ck.vU Jt.au
   have k24:=hlk.out R wr M4 WO
   have f24:=M4.fz 24
   obtain⟨h5,c5,u5⟩:=qR ck Jt ((n:Int)+1)
   have M5:=c5.vU u5.au
   have p24:=M5.lk
   have p2:=M5.c2
   have fz:=M5.fz 24
   have wn:IntKind.i64.wrap ((n:Int)+1)=n+1:=IntWalk.i64_in _ (by omega)
   have HEn:=Lib.hid e2
   have C5:=Lib.hid c5
   have U5:=Lib.hid u5
   have hCe:Hid (R.C.pages=s.C.pages):=Lib.hid YP
   simp only at p2
   rw[YP]at p2
   clear HJ r1 r2 r3 ck uk Jt M4 M5 c5 u5 e2
   by_cases hq:s.C.pages<=(n:Int)+1
   ·have e3:Hid (R.Eo={R with look:= -1}):=Lib.hid (by rw[hEE.out,if_pos hq])
    go_wp2
    go_quiet (fail)
    go_wp2
    go_ret
    obtain⟨h6,c6,u6⟩:=qR C5.out (U5.out.drewN' nq) (-1)
    exact⟨by rw[HEn.out];rfl,h6,by rw[e3.out];exact c6,u6⟩
   ·have e3:Hid (R.Eo={R with look:=(n:Int)+1}):=Lib.hid (by rw[hEE.out,if_neg hq])
    go_wp2
    go_quiet (fail)
    go_wp2
    go_ret
    exact⟨by rw[HEn.out];rfl,h5,by rw[e3.out];exact C5.out,U5.out.drewN' _⟩
end Go.Proofs.YtibemcgdmembeaaGreat
namespace Go.Proofs.YtibemcgdmembeaaGreat
open Go.RowKit
theorem J4(pc:Nat)(L:aX)(s:af)(w:World)(h:Hp)(hi:In w h)(hc:ah pc L s h)(hpar:s.parity=0∨s.parity=1)(ok:s.o.V)(hl1:s.look<=64)(hC:s.C.pages<=1048576)(hpop:s.g.o_=true->I64 s.g.j_):
  Calls Tryz.prog 152 #[ptr pc] w fun e w'=>e= .returned (.int .i64 s.uh)/\ ∃h',ah pc L s.wu h'/\aj h h' w w':=by
 have Qd:=NQ pc L s w h hi hc
 have M0:=hc.vU hi
 have k17:=M0.pg
 cases hp:s.g.o_
 ·have e1:s.wu=if 0<=s.look then s.uV else if s.g.lost=true then s.uT else s.tH:=by unfold af.wu;rw[hp];rfl
  have e2:s.uh=if 0<=s.look then s.BX else if s.g.lost=true then s.BV else 1:=by unfold af.uh;rw[hp];rfl
  have hps:({s with g:=s.g.pop}:af)=s:=by
   have:s.g.list=[]:=by
    unfold bZ.o_ at hp
    simpa using hp
   have e:s.g.pop=s.g:=by
    unfold bZ.pop
    rw[this]
    show({s.g with list:=[]}:bZ)=s.g
    rw[<-this]
   rw[e]
  rw[hps,hp]at Qd
  rw[e1,e2]
  have Le:=Lib.hid (fun W h (hW:In W h) (hc:ah pc L s h)=>ah.vU hc hW)
  by_cases hl:0<=s.look
  ·rw[if_pos hl,if_pos hl]
   have HPg:=Lib.hid (fun W h (hW:In W h) (hc:ah pc L s h)=>JZ pc L s W h hW hc hpar ok hl hl1 hC)
   clear hps e1 e2 hp hpop hpar ok M0 hC
   generalize s.BX=pn at*
   generalize s.uV=ps at*
   simp only[ptr]at*
   go_enter Tryz.func152,Tryz.ntmps152
   go_wp2_with(first
    | (go_at_call 171;refine Calls.mono Qd ?_;rintro e w2 ⟨rfl,h2,c2,u2⟩;have k24:=(Le.out _ _ u2.au c2).lk;have U2:=Lib.hid u2;have C2:=Lib.hid c2;clear u2 c2 Qd)
    | (go_at_call 173;refine Calls.mono (HPg.out _ _ U2.out.au C2.out) ?_;rintro e w3 ⟨rfl,h3,c3,u3⟩;have U3:=Lib.hid (U2.out.trans u3);have C3:=Lib.hid c3;clear u3 c3))
   go_ret
   exact⟨rfl,h3,C3.out,U3.out⟩
  ·rw[if_neg hl,if_neg hl]
   cases hlo:s.g.lost
   ·rw[if_neg (by decide),if_neg (by decide)]
    have WR:=Lib.hid (fun W h (hW:In W h) (hc:ah pc L s h)=>Cb pc L s W h hW hc)
    rw[hlo]at WR
    have HPd:=Lib.hid (fun W h (hW:In W h) (hc:ah pc L {s with phase:=2} h)=>NS pc L {s with phase:=2} W h hW hc)
    have YS:=Lib.hid (fun W h (hW:In W h) (hc:ah pc L {s with phase:=2} h)=>ah.vU hc hW)
    have HE:Hid (({ ({s with phase:=2}:af)with o:=s.o.pend}:af)=s.tH):=Lib.hid rfl
    clear hps e1 e2 hp hpop hpar ok M0 hC hlo
    simp only[ptr]at*
    go_enter Tryz.func152,Tryz.ntmps152
    go_wp2_with(first
     | (go_at_call 171;refine Calls.mono Qd ?_;rintro e w2 ⟨rfl,h2,c2,u2⟩;have k24:=(Le.out _ _ u2.au c2).lk;have k17b:=(Le.out _ _ u2.au c2).pg;have k20:=(Le.out _ _ u2.au c2).ph;have f20:=(Le.out _ _ u2.au c2).fz 20;(obtain⟨h3,c3,u3⟩:=pY c2 u2 2);have k15:=(YS.out _ _ u3.au c3).po;have U2:=Lib.hid u2;have C2:=Lib.hid c2;have U3:=Lib.hid u3;have C3:=Lib.hid c3;clear u2 c2 u3 c3 Qd)
     | (go_at_call 174;refine Calls.mono (WR.out _ _ U2.out.au C2.out) ?_;rintro e w4 ⟨rfl,rfl⟩)
     | (go_at_call 176;refine Calls.mono (HPd.out _ _ U3.out.au C3.out) ?_;rintro e w5 ⟨rfl,h5,c5,u5⟩;have U5:=Lib.hid (U3.out.trans u5);have C5:=Lib.hid c5;clear u5 c5))
    go_ret
    exact⟨rfl,h5,C5.out,U5.out⟩
   ·rw[if_pos rfl,if_pos rfl]
    have WR:=Lib.hid (fun W h (hW:In W h) (hc:ah pc L s h)=>Cb pc L s W h hW hc)
    rw[hlo]at WR
    have Yv:=Lib.hid (fun W h (hW:In W h) (hc:ah pc L s h)=>JW pc L s W h hW hc hpar)
    clear hps e1 e2 hp hpop hpar ok M0 hC hlo
    generalize s.BV=pn at*
    generalize s.uT=ps at*
    simp only[ptr]at*
    go_enter Tryz.func152,Tryz.ntmps152
    go_wp2_with(first
     | (go_at_call 171;refine Calls.mono Qd ?_;rintro e w2 ⟨rfl,h2,c2,u2⟩;have k24:=(Le.out _ _ u2.au c2).lk;have k17b:=(Le.out _ _ u2.au c2).pg;have U2:=Lib.hid u2;have C2:=Lib.hid c2;clear u2 c2 Qd)
     | (go_at_call 174;refine Calls.mono (WR.out _ _ U2.out.au C2.out) ?_;rintro e w4 ⟨rfl,rfl⟩)
     | (go_at_call 175;refine Calls.mono (Yv.out _ _ U2.out.au C2.out) ?_;rintro e w5 ⟨rfl,h5,c5,u5⟩;have U5:=Lib.hid (U2.out.trans u5);have C5:=Lib.hid c5;clear u5 c5))
    go_ret
    exact⟨rfl,h5,C5.out,U5.out⟩
 ·have e1:s.wu=s.vT.jJ (s.now s.g.j_):=by unfold af.wu;rw[hp];rfl
  have e2:s.uh=s.vT.jB (s.now s.g.j_):=by unfold af.uh;rw[hp];rfl
  rw[e1,e2]
  rw[hp]at Qd
  have hI:=hpop hp
  have Nc:Hid (∀W h (hW:In W h) (hc:ah pc L s.vT h),Calls Tryz.prog 78 #[ptr pc, .int .i64 s.g.j_] W fun e w'=>e= .returned (.int .i64 (s.now s.g.j_))/\ ∃h',ah pc L s.vT h'/\aj h h' W w'):=Lib.hid (fun W h hW hc=>oG pc L s.vT s.g.j_ W h hW hc hI)
  have Jq:=Lib.hid (fun a W h (hW:In W h) (hc:ah pc L s.vT h)=>qO pc L s.vT a W h hW hc hpar)
  have hps:({s with g:=s.g.pop}:af)=s.vT:=rfl
  rw[hps]at Qd
  clear e1 e2 hp hpop hpar ok M0 hC hps hI
  generalize s.now s.g.j_=na at*
  generalize s.g.j_=pa at*
  simp only[ptr]at*
  go_enter Tryz.func152,Tryz.ntmps152
  go_wp2_with(first
   | (go_at_call 171;refine Calls.mono Qd ?_;rintro e w2 ⟨rfl,h2,c2,u2⟩;have U2:=Lib.hid u2;have C2:=Lib.hid c2;clear u2 c2 Qd)
   | (go_at_call 78;refine Calls.mono (Nc.out _ _ U2.out.au C2.out) ?_;rintro e w3 ⟨rfl,h3,c3,u3⟩;have U3:=Lib.hid (U2.out.trans u3);have C3:=Lib.hid c3;clear u3 c3)
   | (go_at_call 172;refine Calls.mono (Jq.out _ _ _ U3.out.au C3.out) ?_;rintro e w5 ⟨rfl,h5,c5,u5⟩;have U5:=Lib.hid (U3.out.trans u5);have C5:=Lib.hid c5;clear u5 c5))
  go_ret
  exact⟨rfl,h5,C5.out,U5.out⟩
end Go.Proofs.YtibemcgdmembeaaGreat
namespace Go.Proofs.YtibemcgdmembeaaGreat
open Go.RowKit
structure Given(s s':aP)(a:Int):Prop where
 v:s'.V
 base:s'.base=s.base
 ws:s'.words=s.words
 len:s'.pages.length=s.pages.length
 gone:s'.aH a=none
 rest: ∀b,b≠a->s'.aH b=s.aH b
 pend: ∀(m:Nat) (g':bC),s'.pages[m]? =some g'->g'.kind=1∨g'.kind=2-> ∃g,s.pages[m]? =some g/\g.pending=g'.pending/\g.kind=g'.kind/\g.size=g'.size
theorem Ia{s s':aP}{a:Int}(v:s.V)(v':s'.V)(hb:s'.base=s.base)(hw:s'.words=s.words)(hl:s'.pages.length=s.pages.length)(h: ∀b z,s'.aH b=some z↔s.aH b=some z/\b≠a)
  (hp: ∀(m:Nat) (g':bC),s'.pages[m]? =some g'->g'.kind=1∨g'.kind=2-> ∃g,s.pages[m]? =some g/\g.pending=g'.pending/\g.kind=g'.kind/\g.size=g'.size):Given s s' a:=by
 refine⟨v',hb,hw,hl, ?_,fun b hb=> ?_,hp⟩
 ·cases hq:s'.aH a with
  |none=>rfl
  |some z=>exact absurd rfl ((h a z).1 hq).2
 ·cases hq:s.aH b with
  |some z=>exact(h b z).2 ⟨hq,hb⟩
  |none=>
   cases hr:s'.aH b with
   |none=>rfl
   |some z=>rw[((h b z).1 hr).1]at hq;cases hq
theorem Lh: ∀{l:List Bool},noT l=true-> ∀j:Nat,l[j]? ≠some true
 |[],_,j=>by simp
 |b::l,h,j=>by
  cases b
  ·cases j with
   |zero=>simp
   |succ j=>
    simp only[List.getElem?_cons_succ]
    exact Lh (by simpa[noT]using h) j
  ·simp[noT]at h
theorem yX{s:aP}(v:s.V){a:Int}(h:(s.aH a).isSome=true):Given s (s.give a) a:=by
 have w16:=v.w16
 unfold aP.aH at h
 rw[Option.isSome_map]at h
 obtain⟨⟨n,k⟩,hq⟩:=Option.isSome_iff_exists.1 h
 obtain⟨g,hg,hh⟩:=(sH v).1 hq
 have hnl:n<s.pages.length:=(List.getElem?_eq_some_iff.1 hg).1
 have e1:s.give a=s.tq n k g:=by simp[aP.give,hq,aP.BU,hg]
 rw[e1]
 have hbeg: ∀(s':aP),s'.base=s.base->s'.words=s.words-> ∀m,s'.begin m=s.begin m:=fun s' h1 h2 m=>by unfold aP.begin;rw[h1,h2]
 rcases hh with⟨g2,rfl,hae⟩|⟨g1,hu,hae⟩
 ·obtain⟨b1,b2,b3,b4⟩:=v.big n g hg g2
  obtain⟨y1,y2,y3⟩:=fU b1 b2 w16
  unfold aP.tq
  rw[if_pos g2]
  obtain⟨c,hc⟩: ∃c:Nat,dS s.words g.size=c:=⟨(dS s.words g.size).toNat,by omega⟩
  have hcN:(dS s.words g.size).toNat=c:=by omega
  rw[hcN]
  have hget: ∀m,(kQ s.pages n c)[m]? =if n<=m/\m<n+c/\m<s.pages.length then some yC else s.pages[m]? :=fun m=>BQ c s.pages n m
  have hout: ∀m g',(kQ s.pages n c)[m]? =some g'->g'.kind≠0-> ¬(n<=m/\m<n+c)/\s.pages[m]? =some g':=by
   intro m g' h1 h2
   rw[hget]at h1
   split at h1
   ·cases h1
    exact absurd rfl h2
   ·rename_i hn
    refine⟨fun hh=>hn ⟨hh.1,hh.2,(List.getElem?_eq_some_iff.1 h1).1⟩,h1⟩
  have hin: ∀m,¬(n<=m/\m<n+c)->(kQ s.pages n c)[m]? =s.pages[m]? :=by
   intro m hm
   rw[hget,if_neg (fun hh=>hm ⟨hh.1,hh.2.1⟩)]
  have v':({s with pages:=kQ s.pages n c}:aP).V:=by
   refine⟨w16,v.AU,v.b0, ?_, ?_, ?_⟩
   ·intro m g' h1 h2
    exact v.blk m g' (hout m g' h1 (by omega)).2 h2
   ·intro m g' h1 h2
    obtain⟨hm,h3⟩:=hout m g' h1 (by omega)
    obtain⟨q1,q2,q3,q4⟩:=v.big m g' h3 h2
    refine⟨q1,q2,by show(m:Int)+dS s.words g'.size<=(kQ s.pages n c).length;rw[wY];exact q3,fun j j1 j2=> ?_⟩
    have j2:(j:Int)<dS s.words g'.size:=j2
    obtain⟨g'',z1,z2⟩:=q4 j j1 j2
    refine⟨g'', ?_,z2⟩
    show(kQ s.pages n c)[m+j]? =_
    rw[hin,z1]
    intro hh
    by_cases e:m+j=n
    ·rw[e,hg]at z1
     cases z1
     omega
    ·by_cases hlt:m<n
     ·obtain⟨g3,x1,x2⟩:=q4 (n-m) (by omega) (by omega)
      rw[show m+(n-m)=n by omega,hg]at x1
      cases x1
      omega
     ·exact hm ⟨by omega,by omega⟩
   ·intro m g' h1 h2
    by_cases h0:g'.kind=0
    ·rw[hget]at h1
     split at h1
     ·cases h1;rfl
     ·exact v.az m g' h1 h2
    ·exact v.az m g' (hout m g' h1 h0).2 h2
  refine Ia v v' rfl rfl (wY ..) (fun b z=> ?_) (fun m g' h1 h2=>⟨g',(hout m g' h1 (by omega)).2,rfl,rfl,rfl⟩)
  rw[cZ v',cZ v]
  constructor
  ·rintro⟨m,g',h1,h2⟩
   obtain⟨hm,h3⟩:=hout m g' h1 (by rcases h2 with⟨h,_⟩|⟨h,_⟩<;>omega)
   refine⟨⟨m,g',h3,h2⟩, ?_⟩
   intro e
   have hq2: ∃j,s.at a=some (m,j):=by
    rcases h2 with⟨x1,x2,_⟩|⟨x1,_,j,x2,x3⟩
    ·exact⟨0,(sH v).2 ⟨g',h3, .inl ⟨x1,rfl,by rw[<-e];exact x2⟩⟩⟩
    ·exact⟨j,(sH v).2 ⟨g',h3, .inr ⟨x1,x2,by rw[<-e];exact x3⟩⟩⟩
   obtain⟨j,hj⟩:=hq2
   rw[hq]at hj
   cases hj
   exact hm ⟨Nat.le_refl _,by omega⟩
  ·rintro⟨⟨m,g',h1,h2⟩,hne⟩
   refine⟨m,g', ?_,h2⟩
   show(kQ s.pages n c)[m]? =_
   rw[hin,h1]
   intro hh
   by_cases e:m=n
   ·subst e
    rw[hg]at h1
    cases h1
    rcases h2 with⟨_,x2,_⟩|⟨x1,_⟩
    ·exact hne (by rw[x2,hae])
    ·omega
   ·obtain⟨g'',x1,x2⟩:=b4 (m-n) (by omega) (by omega)
    rw[show n+(m-n)=m by omega,h1]at x1
    cases x1
    rcases h2 with⟨x1,_⟩|⟨x1,_⟩<;>omega
 ·obtain⟨z1,z2,z3,z4⟩:=v.blk n g hg g1
  have hkl:k<g.used.length:=(List.getElem?_eq_some_iff.1 hu).1
  unfold aP.tq
  rw[if_neg (by omega)]
  have key: ∀g':bC,(g'=yC/\noT (g.use k false).used=true)∨g'=g.use k false->Given s (s.bu n g') a:=by
   intro g' hg'
   have Af: ∀m,(s.bu n g').pages[m]? =if n=m then some g' else s.pages[m]? :=by
    intro m
    show(s.pages.set n g')[m]? =_
    rw[List.getElem?_set]
    by_cases e:n=m
    ·rw[if_pos e,if_pos e,if_pos hnl]
    ·rw[if_neg e,if_neg e]
   have hk2:g'.kind≠2/\g'.kind≠3:=by
    rcases hg' with⟨rfl,_⟩|rfl
    ·decide
    ·exact⟨by show g.kind≠2;omega,by show g.kind≠3;omega⟩
   have WS: ∀j:Nat,(g.use k false).used[j]? =some true↔g.used[j]? =some true/\j≠k:=by
    intro j
    show(g.used.set k false)[j]? =_↔_
    rw[List.getElem?_set]
    by_cases e:k=j
    ·subst e
     simp[hkl]
    ·rw[if_neg e]
     exact⟨fun h=>⟨h,fun e2=>e e2.symm⟩,fun h=>h.1⟩
   have hcell: ∀j:Nat,(j:Int)*g.size=(k:Int)*g.size->j=k:=by
    intro j hj
    have:=Int.eq_of_mul_eq_mul_right (by omega:g.size≠0) hj
    omega
   have v':(s.bu n g').V:=by
    refine⟨w16,v.AU,v.b0, ?_, ?_, ?_⟩
    ·intro m g'' h1 h2
     rw[Af]at h1
     split at h1
     ·cases h1
      rcases hg' with⟨rfl,_⟩|rfl
      ·exact absurd h2 (by decide)
      ·exact⟨z1,z2,z3,by show((g.used.set k false).length:Int)=s.words/g.size;rw[List.length_set];exact z4⟩
     ·exact v.blk m g'' h1 h2
    ·intro m g'' h1 h2
     rw[Af]at h1
     split at h1
     ·cases h1
      exact absurd h2 hk2.1
     ·obtain⟨q1,q2,q3,q4⟩:=v.big m g'' h1 h2
      refine⟨q1,q2,by show(m:Int)+_<=(s.pages.set n g').length;rw[List.length_set];exact q3,fun j j1 j2=> ?_⟩
      obtain⟨g3,x1,x2⟩:=q4 j j1 j2
      refine⟨g3, ?_,x2⟩
      rw[Af,if_neg,x1]
      intro e
      rw[<-e,hg]at x1
      cases x1
      omega
    ·intro m g'' h1 h2
     rw[Af]at h1
     split at h1
     ·cases h1
      rcases hg' with⟨rfl,_⟩|rfl
      ·rfl
      ·exact absurd g1 h2
     ·exact v.az m g'' h1 h2
   refine Ia v v' rfl rfl (by show(s.pages.set n g').length=_;rw[List.length_set]) (fun b z=> ?_) ?_
   ·rw[cZ v',cZ v]
    constructor
    ·rintro⟨m,g'',h1,h2⟩
     rw[Af]at h1
     split at h1
     ·rename_i e
      subst e
      cases h1
      rcases h2 with⟨x1,_⟩|⟨x1,x2,j,x3,x4⟩
      ·exact absurd x1 hk2.1
      ·rcases hg' with⟨rfl,_⟩|rfl
       ·exact absurd x1 (by decide)
       ·obtain⟨x5,x6⟩:=(WS j).1 x3
        refine⟨⟨n,g,hg, .inr ⟨g1,x2,j,x5,x4⟩⟩, ?_⟩
        intro e
        rw[e,hae]at x4
        have:(k:Int)*g.size=(j:Int)*g.size:=by
         have e3:(s.bu n (g.use k false)).begin n=s.begin n:=rfl
         have e4:(g.use k false).size=g.size:=rfl
         rw[e3,e4]at x4
         omega
        exact x6 (hcell j this.symm)
     ·rename_i e
      refine⟨⟨m,g'',h1,h2⟩, ?_⟩
      intro e2
      have hq2: ∃j,s.at a=some (m,j):=by
       rcases h2 with⟨x1,x2,_⟩|⟨x1,_,j,x2,x3⟩
       ·exact⟨0,(sH v).2 ⟨g'',h1, .inl ⟨x1,rfl,by rw[<-e2];exact x2⟩⟩⟩
       ·exact⟨j,(sH v).2 ⟨g'',h1, .inr ⟨x1,x2,by rw[<-e2];exact x3⟩⟩⟩
      obtain⟨j,hj⟩:=hq2
      rw[hq]at hj
      cases hj
      exact e rfl
    ·rintro⟨⟨m,g'',h1,h2⟩,hne⟩
     by_cases e:n=m
     ·subst e
      rw[hg]at h1
      cases h1
      rcases h2 with⟨x1,_⟩|⟨x1,x2,j,x3,x4⟩
      ·omega
      ·have hjk:j≠k:=by
        intro e
        rw[e]at x4
        exact hne (by rw[x4,hae])
       have x5:=(WS j).2 ⟨x3,hjk⟩
       rcases hg' with⟨_,hno⟩|rfl
       ·exact absurd x5 (Lh hno j)
       ·exact⟨n,g.use k false,by rw[Af,if_pos rfl], .inr ⟨g1,x2,j,x5,x4⟩⟩
     ·exact⟨m,g'',by rw[Af,if_neg e,h1],h2⟩
   ·intro m g'' h1 h2
    rw[Af]at h1
    split at h1
    ·rename_i e
     subst e
     cases h1
     rcases hg' with⟨rfl,_⟩|rfl
     ·rcases h2 with h2|h2<;>exact absurd h2 (by decide)
     ·exact⟨g,hg,rfl,rfl,rfl⟩
    ·exact⟨g'',h1,rfl,rfl,rfl⟩
  unfold aP.BR
  split
  ·rename_i hno
   exact key yC (.inl ⟨rfl,hno⟩)
  ·exact key _ (.inr rfl)
end Go.Proofs.YtibemcgdmembeaaGreat
namespace Go.Proofs.YtibemcgdmembeaaGreat
open Go.RowKit
theorem Vs{s:aP}(v:s.V)(a:Int):(s.give a).V/\ (s.give a).pages.length=s.pages.length/\ (s.give a).base=s.base/\ (s.give a).words=s.words:=by
 cases h:(s.aH a).isSome
 ·have:s.at a=none:=by
   unfold aP.aH at h
   rw[Option.isSome_map]at h
   simpa using h
  have e:s.give a=s:=by simp[aP.give,this,aP.BU]
  rw[e]
  exact⟨v,rfl,rfl,rfl⟩
 ·have:=yX v h
  exact⟨this.v,this.len,this.base,this.ws⟩
theorem wz(s:af)(a:Int)(v:s.o.V):s.dD a={s with o:=(s.dD a).o}/\ (s.dD a).o.V/\ (s.dD a).o.pages.length=s.o.pages.length/\ (s.dD a).o.base=s.o.base/\ (s.dD a).o.words=s.o.words:=by
 unfold af.dD
 split
 ·exact⟨rfl,v,rfl,rfl,rfl⟩
 ·exact⟨rfl,Vs v a⟩
theorem zJ: ∀(l:List Int) (s:af) (v:s.o.V),eH l s={s with o:=(eH l s).o}/\ (eH l s).o.V/\ (eH l s).o.pages.length=s.o.pages.length/\ (eH l s).o.base=s.o.base/\ (eH l s).o.words=s.o.words
 |[],s,v=>⟨rfl,v,rfl,rfl,rfl⟩
 |a::l,s,v=>by
  obtain⟨h1,h2,h3,h4,h5⟩:=wz s a v
  obtain⟨k1,k2,k3,k4,k5⟩:=zJ l (s.dD a) h2
  refine⟨?_,k2,k3.trans h3,k4.trans h4,k5.trans h5⟩
  show eH l (s.dD a)={s with o:=(eH l (s.dD a)).o}
  generalize (eH l (s.dD a)).o=O at*
  rw[k1,h1]
theorem Qe{l:List Int}{j:Nat}(h:j<l.length):l.getD j 0∈l:=by
 rw[List.getD_eq_getElem?_getD,List.getElem?_eq_getElem h]
 exact List.getElem_mem h
theorem Ce: ∀{l:List Bool} {k n:Nat},firstT l k=some n->k<=n/\n<k+l.length
 |[],_,_,h=>by cases h
 |b::l,k,n,h=>by
  cases b
  ·simp only[firstT]at h
   have:=Ce (l:=l) (k:=k+1) (n:=n) (by simpa using h)
   simp only[List.length_cons]
   omega
  ·simp[firstT]at h
   subst h
   simp
theorem Qg{s:aP}{n:Nat}(h:s.qA=some n):n<s.pages.length:=by
 have:=Ce h
 simp at this
 omega
theorem Ib(pc:Nat)(L:aX)(s:af)(w:World)(h:Hp)(hi:In w h)(hc:ah pc L s h)(hv:s.o.V):
  Calls Tryz.prog 153 #[ptr pc] w fun e w'=>e= .returned (.tuple #[.int .i64 s.pX, .bool s.o.qA.isSome])/\ ∃h',ah pc L s.qQ h'/\aj h h' w w':=by
 have Ua:=FC pc L s w h hi hc
 have M0:=hc.vU hi
 have k15:=M0.po
 cases hp:s.o.qA with
 |none=>
  have e1:s.qQ=s.BZ/\s.pX=1:=by unfold af.qQ af.pX;rw[hp];exact⟨rfl,rfl⟩
  rw[e1.1,e1.2]
  rw[hp]at Ua
  simp only[yH,Option.isSome_none]at Ua⊢
  have k20:=M0.ph
  have f20:=M0.fz 20
  have f30:=M0.fz 30
  obtain⟨h2,c2,u2⟩:=pY hc (aj.refl hi) 0
  have k30:=(c2.vU u2.au).mj
  obtain⟨h3,c3,u3⟩:=zZ c2 u2 (wrap64 (s.done.qP+1))
  have HE:Hid (({ ({s with phase:=0}:af)with done:={ ({s with phase:=0}:af).done with qP:=wrap64 (s.done.qP+1)}}:af)=s.BZ):=Lib.hid rfl
  have HC:=Lib.hid c3
  have HU:=Lib.hid u3
  simp only at k30
  clear c2 u2 c3 u3 hc M0 hp e1
  simp only[ptr]at*
  go_enter Tryz.func153,Tryz.ntmps153
  go_wp2_with(go_at_call 177;refine Calls.mono Ua ?_;rintro e w2 ⟨rfl,rfl⟩;clear Ua)
  go_ret2
  exact⟨rfl,h3,HC.out,HU.out⟩
 |some n=>
  have hnl:=Qg hp
  have e1:s.qQ=s.ni n/\s.pX=1+(s.dJ n).length:=by unfold af.qQ af.pX;rw[hp];exact⟨rfl,rfl⟩
  rw[e1.1,e1.2]
  rw[hp]at Ua
  simp only[yH,Option.isSome_some]at Ua⊢
  have YT:s.o.pages.length<=64/\s.o.base<=1048576/\s.o.words<=256:=by
   obtain⟨v,ha',hy,ho,hr,hg,ht,hw',rfl,ca,cy,co,cr,cg,ct,cw⟩:=hc
   obtain⟨b,rows,m⟩:=co.rows
   exact⟨m.2.2.2.2.2.2.2,m.2.2.2.2.1,m.2.2.2.2.2.2.1⟩
  have Af:=Es pc L s n w h hi hc hnl
  have J3:=fun W h (hW:In W h) (hc:ah pc L s h)=>uK pc L s (s.o.begin n) (s.o.begin n+s.o.words) W h hW hc hv.ok
  have hlen:=Cc hc hv.ok (s.o.begin n) (s.o.begin n+s.o.words)
  have hmem:Hid (∀j:Nat,j<(s.dJ n).length->I64 ((s.dJ n).getD j 0)):=Lib.hid (by
   intro j hj
   have this:s.o.begin n<=(s.dJ n).getD j 0/\ (s.dJ n).getD j 0<s.o.begin n+s.o.words/\_:=(nO hv).1 (Qe hj)
   have b1:s.o.begin n<=s.o.base+64*256:=by
    unfold aP.begin
    have:(n:Int)*s.o.words<=64*256:=Int.mul_le_mul (by omega) (by omega) (by have:=hv.w16;omega) (by omega)
    omega
   have b2:1<=s.o.begin n:=by
    have h0:=hv.b0
    have h1:=hv.w16
    unfold aP.begin
    have:0<=(n:Int)*s.o.words:=Int.mul_nonneg (by omega) (by omega)
    omega
   exact⟨by omega,by omega⟩)
  have Sj:s.o.starts (s.o.begin n) (s.o.begin n+s.o.words)=s.dJ n:=rfl
  rw[Sj]at J3 hlen
  have hSS:=zJ (s.dJ n) s hv
  have HE:Hid (s.ni n={eH (s.dJ n) s with o:=(eH (s.dJ n) s).o.uS n}):=Lib.hid rfl
  rw[HE.out]
  obtain⟨R,hR⟩: ∃R,R=eH (s.dJ n) s:=⟨_,rfl⟩
  rw[<-hR]at hSS⊢
  have hRl:n<R.o.pages.length:=by omega
  have HDn:=Lib.hid (fun W h (hW:In W h) (hc:ah pc L R h)=>NR pc L R n W h hW hc hRl)
  have H0:Hid (R=eH ((s.dJ n).drop 0) s/\s.o.V):=Lib.hid ⟨hR,hv⟩
  have Le:=Lib.hid (fun S W h (hW:In W h) (hc:ah pc L S h)=>ah.vU hc hW)
  have NJ:=Lib.hid (fun S a W h (hW:In W h) (hc:ah pc L S h)=>kY pc L S a W h hW hc)
  have HGv:=Lib.hid (fun S a W h (hW:In W h) (hc:ah pc L S h) (hv:S.o.V) (ha:I64 a)=>NT pc L S a W h hW hc hv ha)
  have Dq:=Lib.hid hc
  have TZ:=Lib.hid (aj.refl hi)
  clear hR Sj hSS e1 hp hv M0 hc HE YT
  generalize s.dJ n=l at*
  generalize hB:s.o.begin n=B at*
  generalize hB2:B+s.o.words=B2 at*
  clear hB hB2
  simp only[ptr]at*
  go_enter Tryz.func153,Tryz.ntmps153
  go_wp2_with(first
   | (go_at_call 177;refine Calls.mono Ua ?_;rintro e w2 ⟨rfl,hw⟩;obtain rfl:=hw.symm;clear Ua hw)
   | (go_at_call 178;refine Calls.mono Af ?_;rintro e w3 ⟨rfl,u3⟩;have U3:=Lib.hid u3;have YU:=(Le.out _ _ _ u3.au Dq.out).po;clear Af u3)
   | (go_at_call 167;refine Calls.mono (J3 _ _ U3.out.au Dq.out) ?_;rintro e w4 ⟨v4,h4,rfl,s4,u4⟩;have U4:=Lib.hid (U3.out.trans u4);(obtain⟨ao,cap,rfl,hcap⟩:=s4.shape);have YR:=Lib.hid s4;clear s4 u4))
  have H4:Hid (∃S h',R=eH (l.drop 0) S/\S.o.V/\ah pc L S h'/\aj h (h4++h') w w4):=Lib.hid ⟨s,h,H0.out.1,H0.out.2,Dq.out,U4.out⟩
  clear J3 U3 U4 H0 TZ k15 YU Dq
  go_loopw [51] (fun i wr=> ∃j:Nat,j<=l.length/\i= .int .i64 j/\Hid (∃S h',R=eH (l.drop j) S/\S.o.V/\ah pc L S h'/\aj h (h4++h') w wr)) (fun i _=>l.length-(intOf i).toNat)
  case atStart=>exact⟨0,by omega,rfl,H4⟩
  case round=>
   obtain⟨j,hj,rfl,HJ⟩:=hrel
   obtain⟨S,hk,r1,r3,ck,uk⟩:=HJ.out
   by_cases hjl:j<l.length
   ·obtain⟨gb,off,rfl,hcj⟩:=aK.nH (kd:= .i64) YR.out uk.au.left hjl
    rw[drop_cons hjl]at r1
    simp only[eH]at r1
    have ha:=hmem.out j hjl
    have hhd:=fun W (u:aj h (h4++hk) w W)=>NJ.out S (l.getD j 0) W hk u.au.right ck
    have hgv:=fun W h (hW:In W h) (hc:ah pc L S h)=>HGv.out S (l.getD j 0) W h hW hc r3 ha
    obtain⟨o1,o2,o3,o4,o5⟩:=wz S (l.getD j 0) r3
    have HV:=Lib.hid o2
    have HR1:=Lib.hid r1
    have HU:=Lib.hid uk
    have UZ:=Lib.hid ck
    have M5:=ck.vU uk.au.right
    have k19:=M5.par
    have hS0:wr.drew.cell? ⟨pc,19,none⟩=some (.int .i64 S.parity):=k19
    have WT:=Lib.hid hhd
    have YV:=Lib.hid hgv
    have hone:Hid (S.dD (l.getD j 0)=if(ag S.ws (l.getD j 0)).parity=S.parity then S else {S with o:=S.o.give (l.getD j 0)}):=Lib.hid rfl
    clear r1 uk ck HJ r3 o1 o2 o3 o4 o5 hhd hgv M5 ha
    generalize l.getD j 0=a at*
    generalize ag S.ws a=H at*
    obtain⟨x1,x2,x3,x4,x5,x6,x7⟩:=H
    simp only[aF]at*
    have hF:=fun W=>H_ x1 x2 x3 x4 x5 x6 x7 W
    by_cases hq:x4=S.parity
    ·have e2:Hid (S.dD a=S):=Lib.hid (by rw[hone.out];exact if_pos hq)
     subst hq
     clear hone
     go_wp2
     refine wp_region_held_drew (S:=fun w'=>w'.cell? ⟨pc,19,none⟩=some (.int .i64 S.parity)) (by kernel_rfl) (hS0) (fun hHeld=> ?_)
     refine wpAnyH_take (i:=0) (v:= ?_) rfl (by kernel_rfl) (by kernel_rfl) (by kernel_rfl) (fun _ _ _ h=>h) (Or.inl ⟨by kernel_rfl, ?_⟩) (by assumption) ?_
     rotate_left
     ·(intro w' hSw;(try dsimp only at hSw);go_simp;(try with_reducible rfl))
     try simp only[Act.put,List.setIfInBounds_toArray,List.set_cons_zero,List.set_cons_succ]
     refine wpAnyH_take (i:=1) (v:= ?_) rfl (by kernel_rfl) (by kernel_rfl) (by kernel_rfl) (fun _ _ _ h=>h) (Or.inl ⟨by kernel_rfl, ?_⟩) (by assumption) ?_
     rotate_left
     ·(intro w' hSw;(try dsimp only at hSw);go_simp;(try with_reducible rfl))
     try simp only[Act.put,List.setIfInBounds_toArray,List.set_cons_zero,List.set_cons_succ]
     refine wpAnyH_take (i:=4) (v:= ?_) rfl (by kernel_rfl) (by kernel_rfl) (by kernel_rfl) (fun _ _ _ h=>h) (Or.inl ⟨by kernel_rfl, ?_⟩) (by assumption) ?_
     rotate_left
     ·(intro w' hSw;(try dsimp only at hSw);go_simp;(try with_reducible rfl))
     try simp only[Act.put,List.setIfInBounds_toArray,List.set_cons_zero,List.set_cons_succ]
     refine wpAnyH_take (i:=5) (v:= ?_) rfl (by kernel_rfl) (by kernel_rfl) (by kernel_rfl) (fun _ _ _ h=>h) (Or.inl ⟨by kernel_rfl, ?_⟩) (by assumption) ?_
     rotate_left
     ·(intro w' hSw;(try dsimp only at hSw);go_simp;(try with_reducible rfl))
     try simp only[Act.put,List.setIfInBounds_toArray,List.set_cons_zero,List.set_cons_succ]
     refine wpAnyH_take (i:=6) (v:= ?_) rfl (by kernel_rfl) (by kernel_rfl) (by kernel_rfl) (fun _ _ _ h=>h) (Or.inl ⟨by kernel_rfl, ?_⟩) (by assumption) ?_
     rotate_left
     ·(intro w' hSw;(try dsimp only at hSw);go_simp;(try with_reducible rfl))
     try simp only[Act.put,List.setIfInBounds_toArray,List.set_cons_zero,List.set_cons_succ]
     refine wpAnyH_take (i:=7) (v:= ?_) rfl (by kernel_rfl) (by kernel_rfl) (by kernel_rfl) (fun _ _ _ h=>h) (Or.inl ⟨by kernel_rfl, ?_⟩) (by assumption) ?_
     rotate_left
     ·(intro w' hSw;(try dsimp only at hSw);go_simp;(try with_reducible rfl))
     try simp only[Act.put,List.setIfInBounds_toArray,List.set_cons_zero,List.set_cons_succ]
     refine wpAnyH_ready (rs:=[2]) (by kernel_rfl) (by simp) ?_
     refine AllReadyH.cons (o:=_) rfl (fun K hK=> ?_) AllReadyH.nil
     go_simp
     go_wp2_with(go_at_call 59;refine Calls.mono (WT.out _ HU.out.drew') ?_;rintro e w5 ⟨rfl,h5,c5,u5⟩;have U5:=Lib.hid (aj.fM HU.out.drew' u5);have C5:=Lib.hid c5;have YW:=(Le.out _ _ _ U5.out.au.right c5).par;clear u5 c5)
     try go_wp2_with fail
     refine hK.out _ _ (YW) (fun hHeld=> ?_)
     clear hK K
     try simp only[Act.put,List.setIfInBounds_toArray,List.set_cons_zero,List.set_cons_succ]
     refine wpAnyH_take (i:=3) (v:= ?_) rfl (by kernel_rfl) (by kernel_rfl) (by kernel_rfl) (fun _ _ _ h=>h) (Or.inl ⟨by kernel_rfl, ?_⟩) (by assumption) ?_
     rotate_left
     ·(intro w' hSw;(try dsimp only at hSw);go_simp;(try with_reducible rfl))
     try simp only[Act.put,List.setIfInBounds_toArray,List.set_cons_zero,List.set_cons_succ]
     refine wpAnyH_take (i:=8) (v:= ?_) rfl (by kernel_rfl) (by kernel_rfl) (by kernel_rfl) (fun _ _ _ h=>h) (Or.inl ⟨by kernel_rfl, ?_⟩) (by assumption) ?_
     rotate_left
     ·(intro w' hSw;(try dsimp only at hSw);go_simp;(try with_reducible rfl))
     try simp only[Act.put,List.setIfInBounds_toArray,List.set_cons_zero,List.set_cons_succ]
     refine wpAnyH_done (by kernel_rfl) ?_ _
     go_simp
     go_wp2
     go_roundw
     case rel=>exact⟨j+1,by omega,by go_num,Lib.hid ⟨S.dD a,h5,HR1.out,HV.out,by rw[e2.out];exact C5.out,U5.out⟩⟩
     case measure=>simp[intOf];omega
    ·have e2:Hid (S.dD a={S with o:=S.o.give a}):=Lib.hid (by rw[hone.out];exact if_neg hq)
     have hq1:(x4 !=S.parity)=true:=by simpa using hq
     clear hone hq
     go_wp2
     refine wp_region_held_drew (S:=fun w'=>w'.cell? ⟨pc,19,none⟩=some (.int .i64 S.parity)) (by kernel_rfl) (hS0) (fun hHeld=> ?_)
     refine wpAnyH_take (i:=0) (v:= ?_) rfl (by kernel_rfl) (by kernel_rfl) (by kernel_rfl) (fun _ _ _ h=>h) (Or.inl ⟨by kernel_rfl, ?_⟩) (by assumption) ?_
     rotate_left
     ·(intro w' hSw;(try dsimp only at hSw);go_simp;(try with_reducible rfl))
     try simp only[Act.put,List.setIfInBounds_toArray,List.set_cons_zero,List.set_cons_succ]
     refine wpAnyH_take (i:=1) (v:= ?_) rfl (by kernel_rfl) (by kernel_rfl) (by kernel_rfl) (fun _ _ _ h=>h) (Or.inl ⟨by kernel_rfl, ?_⟩) (by assumption) ?_
     rotate_left
     ·(intro w' hSw;(try dsimp only at hSw);go_simp;(try with_reducible rfl))
     try simp only[Act.put,List.setIfInBounds_toArray,List.set_cons_zero,List.set_cons_succ]
     refine wpAnyH_take (i:=4) (v:= ?_) rfl (by kernel_rfl) (by kernel_rfl) (by kernel_rfl) (fun _ _ _ h=>h) (Or.inl ⟨by kernel_rfl, ?_⟩) (by assumption) ?_
     rotate_left
     ·(intro w' hSw;(try dsimp only at hSw);go_simp;(try with_reducible rfl))
     try simp only[Act.put,List.setIfInBounds_toArray,List.set_cons_zero,List.set_cons_succ]
     refine wpAnyH_take (i:=5) (v:= ?_) rfl (by kernel_rfl) (by kernel_rfl) (by kernel_rfl) (fun _ _ _ h=>h) (Or.inl ⟨by kernel_rfl, ?_⟩) (by assumption) ?_
     rotate_left
     ·(intro w' hSw;(try dsimp only at hSw);go_simp;(try with_reducible rfl))
     try simp only[Act.put,List.setIfInBounds_toArray,List.set_cons_zero,List.set_cons_succ]
     refine wpAnyH_take (i:=6) (v:= ?_) rfl (by kernel_rfl) (by kernel_rfl) (by kernel_rfl) (fun _ _ _ h=>h) (Or.inl ⟨by kernel_rfl, ?_⟩) (by assumption) ?_
     rotate_left
     ·(intro w' hSw;(try dsimp only at hSw);go_simp;(try with_reducible rfl))
     try simp only[Act.put,List.setIfInBounds_toArray,List.set_cons_zero,List.set_cons_succ]
     refine wpAnyH_take (i:=7) (v:= ?_) rfl (by kernel_rfl) (by kernel_rfl) (by kernel_rfl) (fun _ _ _ h=>h) (Or.inl ⟨by kernel_rfl, ?_⟩) (by assumption) ?_
     rotate_left
     ·(intro w' hSw;(try dsimp only at hSw);go_simp;(try with_reducible rfl))
     try simp only[Act.put,List.setIfInBounds_toArray,List.set_cons_zero,List.set_cons_succ]
     refine wpAnyH_ready (rs:=[2]) (by kernel_rfl) (by simp) ?_
     refine AllReadyH.cons (o:=_) rfl (fun K hK=> ?_) AllReadyH.nil
     go_simp
     go_wp2_with(go_at_call 59;refine Calls.mono (WT.out _ HU.out.drew') ?_;rintro e w5 ⟨rfl,h5,c5,u5⟩;have U5:=Lib.hid (aj.fM HU.out.drew' u5);have C5:=Lib.hid c5;have YW:=(Le.out _ _ _ U5.out.au.right c5).par;have YQ:=(Le.out _ _ _ U5.out.au.right c5).po;clear u5 c5)
     try go_wp2_with fail
     refine hK.out _ _ (YW) (fun hHeld=> ?_)
     clear hK K
     try simp only[Act.put,List.setIfInBounds_toArray,List.set_cons_zero,List.set_cons_succ]
     refine wpAnyH_take (i:=3) (v:= ?_) rfl (by kernel_rfl) (by kernel_rfl) (by kernel_rfl) (fun _ _ _ h=>h) (Or.inl ⟨by kernel_rfl, ?_⟩) (by assumption) ?_
     rotate_left
     ·(intro w' hSw;(try dsimp only at hSw);go_simp;(try with_reducible rfl))
     try simp only[Act.put,List.setIfInBounds_toArray,List.set_cons_zero,List.set_cons_succ]
     refine wpAnyH_take (i:=8) (v:= ?_) rfl (by kernel_rfl) (by kernel_rfl) (by kernel_rfl) (fun _ _ _ h=>h) (Or.inl ⟨by kernel_rfl, ?_⟩) (by assumption) ?_
     rotate_left
     ·(intro w' hSw;(try dsimp only at hSw);go_simp;(try with_reducible rfl))
     try simp only[Act.put,List.setIfInBounds_toArray,List.set_cons_zero,List.set_cons_succ]
     refine wpAnyH_done (by kernel_rfl) ?_ _
     go_simp
     go_wp2_with(go_at_call 179;refine Calls.mono (YV.out _ _ U5.out.au.right C5.out) ?_;rintro e w6 ⟨⟨q,rfl⟩,h6,c6,u6⟩;have U6:=Lib.hid (aj.fM U5.out u6);have C6:=Lib.hid c6;clear u6 c6)
     go_roundw
     case rel=>exact⟨j+1,by omega,by go_num,Lib.hid ⟨S.dD a,h6,HR1.out,HV.out,by rw[e2.out];exact C6.out,U6.out⟩⟩
     case measure=>simp[intOf];omega
   ·rw[List.drop_of_length_le (by omega)]at r1
    have e1:R=S:=r1
    subst e1
    have Jt:=uk.forget (List.sublist_append_right _ _)
    have k15:=(ck.vU Jt.au).po
    have hdn:=HDn.out wr hk Jt.au ck
    have HU:=Lib.hid Jt
    clear HJ r1 r3 ck uk Jt
    go_wp2_with(go_at_call 180;refine Calls.mono hdn ?_;rintro e w6 ⟨⟨q,rfl⟩,h6,c6,u6⟩;have U6:=Lib.hid (HU.out.trans u6);have C6:=Lib.hid c6;clear u6 c6 hdn)
    go_ret2
    exact⟨rfl,h6,C6.out,U6.out⟩
structure af.Lj(s:af):Prop where
 par:s.parity=0∨s.parity=1
 v:s.o.V
 lk:s.look<=64
 cp:s.C.pages<=1048576
 pop:s.g.o_=true->I64 s.g.j_
theorem J5(pc:Nat)(L:aX)(s:af)(w:World)(h:Hp)(hi:In w h)(hc:ah pc L s h)(ok:s.Lj):
  Calls Tryz.prog 116 #[ptr pc] w fun e w'=>e= .returned (.tuple #[.int .i64 s.tJ, .bool s.yV])/\ ∃h',ah pc L s.fC h'/\aj h h' w w':=by
 have k20:=(hc.vU hi).ph
 have HC:=Lib.hid hc
 have HU:=Lib.hid (aj.refl hi)
 by_cases h0:s.phase=0
 ·have e:s.fC=s/\s.tJ=0/\s.yV=false:=by unfold af.fC af.tJ af.yV;rw[if_pos h0,if_pos h0,if_pos h0];exact⟨rfl,rfl,rfl⟩
  rw[e.1,e.2.1,e.2.2]
  rw[h0]at k20
  clear e h0 hc ok
  simp only[ptr]at*
  go_enter Tryz.func116,Tryz.ntmps116
  go_wp2
  go_ret2
  exact⟨rfl,h,HC.out,HU.out⟩
 ·by_cases h1:s.phase=1
  ·have e:s.fC=s.wu/\s.tJ=s.uh/\s.yV=true:=by unfold af.fC af.tJ af.yV;rw[if_neg h0,if_neg h0,if_neg h0,if_pos h1,if_pos h1,if_pos h1];exact⟨rfl,rfl,rfl⟩
   have hmk:=J4 pc L s w h hi hc ok.par ok.v ok.lk ok.cp ok.pop
   rw[e.1,e.2.1,e.2.2]
   rw[h1]at k20
   clear e h0 h1 hc ok
   generalize s.wu=T at*
   generalize s.uh=N at*
   simp only[ptr]at*
   go_enter Tryz.func116,Tryz.ntmps116
   go_wp2_with(go_at_call 152;refine Calls.mono hmk ?_;rintro e w2 ⟨rfl,h2,c2,u2⟩;have C2:=Lib.hid c2;have U2:=Lib.hid u2;clear c2 u2 hmk)
   go_ret2
   exact⟨rfl,h2,C2.out,U2.out⟩
  ·have e:s.fC=s.qQ/\s.tJ=s.pX/\s.yV=s.o.qA.isSome:=by unfold af.fC af.tJ af.yV;rw[if_neg h0,if_neg h0,if_neg h0,if_neg h1,if_neg h1,if_neg h1];exact⟨rfl,rfl,rfl⟩
   have hmk:=Ib pc L s w h hi hc ok.v
   rw[e.1,e.2.1,e.2.2]
   have q0:(s.phase==0)=false:=by simpa using h0
   have q1:(s.phase==1)=false:=by simpa using h1
   clear e h0 h1 hc ok
   generalize s.qQ=T at*
   generalize s.pX=N at*
   generalize s.o.qA.isSome=B at*
   simp only[ptr]at*
   go_enter Tryz.func116,Tryz.ntmps116
   go_wp2_with(go_at_call 153;refine Calls.mono hmk ?_;rintro e w2 ⟨rfl,h2,c2,u2⟩;have C2:=Lib.hid c2;have U2:=Lib.hid u2;clear c2 u2 hmk)
   go_ret2
   exact⟨rfl,h2,C2.out,U2.out⟩
end Go.Proofs.YtibemcgdmembeaaGreat
namespace Go.Proofs.YtibemcgdmembeaaGreat
open Go.RowKit
def af.uX:Nat->af->Int->Int->Prop
 |0,_,_,_=>True
 |k+1,s,d,work=>d<work->s.Lj/\d+s.tJ<=1000000000000/\ (s.yV=true->s.fC.uX k (d+s.tJ) work)
theorem Eu(s:af):1<=s.uh:=by
 unfold af.uh
 split
 ·exact(jK _ _).1
 ·split
  ·have:=lU s.dO s
   unfold af.BX
   omega
  ·split
   ·have h1:=iJ s.y.cu.toNat s.jV s.y.cf (s.y.cf+s.y.cu)
    have h2:=iJ s.y.ou.toNat s.ng s.y.of (s.y.of+s.y.ou)
    unfold af.BV af.tu
    omega
   ·omega
theorem Cf(s:af):1<=s.pX:=by
 unfold af.pX
 split<;>omega
theorem Ic(s:af):0<=s.tJ:=by
 unfold af.tJ
 have:=Eu s
 have:=Cf s
 split
 ·omega
 ·split<;>omega
theorem Ie(s:af)(h:s.yV=true):1<=s.tJ:=by
 unfold af.yV at h
 unfold af.tJ
 have:=Eu s
 have:=Cf s
 by_cases h0:s.phase=0
 ·rw[if_pos h0]at h
  cases h
 ·rw[if_neg h0]
  split<;>omega
theorem NV(pc:Nat)(L:aX)(s:af)(work:Int)(w:World)(h:Hp)(hi:In w h)(hc:ah pc L s h)(k:Nat)(s':af)(d':Int)(hr:s.jD k 0 work=some (s',d'))(hm:s.uX k 0 work):
  Calls Tryz.prog 105 #[ptr pc, .int .i64 work] w fun e w'=>e= .returned (.int .i64 d')/\ ∃h',ah pc L s' h'/\aj h h' w w':=by
 have TP:=Lib.hid (fun s W h (hW:In W h) (hc:ah pc L s h) (m:s.Lj)=>J5 pc L s W h hW hc m)
 have H0:Hid (∃k S h',S.jD k 0 work=some (s',d')/\S.uX k 0 work/\ah pc L S h'/\aj h h' w w):=Lib.hid ⟨k,s,h,hr,hm,hc,aj.refl hi⟩
 clear hr hm hc hi k
 simp only[ptr]at*
 go_enter Tryz.func105,Tryz.ntmps105
 go_wp2
 go_loopw [5] (fun v wr=> ∃d:Int,0<=d/\d<=1000000000000/\v= .int .i64 d/\Hid (∃k S h',S.jD k d work=some (s',d')/\S.uX k d work/\ah pc L S h'/\aj h h' w wr)) (fun v _=>(work-intOf v).toNat)
 case atStart=>exact⟨0,by omega,by omega,rfl,H0⟩
 case round=>
  obtain⟨d,hd0,hd1,rfl,HW⟩:=hrel
  obtain⟨k,S,hk,hr,hm,ck,uk⟩:=HW.out
  cases k with
  |zero=>cases hr
  |succ k=>
   by_cases hlt:d<work
   ·simp only[af.jD,if_pos hlt]at hr
    obtain⟨m1,m2,m3⟩:=hm hlt
    have hst:=TP.out S wr hk uk.au ck m1
    have hnn:=Ic S
    have hnp:=Ie S
    have HU:=Lib.hid uk
    cases hb:S.yV
    ·rw[hb]at hst
     rw[hb,if_neg (by decide)]at hr
     simp only[Option.some.injEq,Prod.mk.injEq]at hr
     obtain⟨r1,r2⟩:=hr
     have R1:=Lib.hid r1
     have R2:=Lib.hid r2
     clear hb m1 m3 hnp ck uk HW r1 r2 hm
     generalize S.tJ=n at*
     go_wp2_with(go_at_call 116;refine Calls.mono hst ?_;rintro e w2 ⟨rfl,h2,c2,u2⟩;have C2:=Lib.hid c2;have U2:=Lib.hid (HU.out.trans u2);clear c2 u2 hst)
     go_ret
     rw[<-R2.out,<-R1.out]
     exact⟨rfl,h2,C2.out,U2.out⟩
    ·rw[hb]at hst
     rw[hb,if_pos rfl]at hr
     have hp:=hnp hb
     have M3:=Lib.hid (m3 hb)
     have HR:=Lib.hid hr
     clear hb m1 m3 hnp ck uk HW hr hm
     generalize S.tJ=n at*
     generalize S.fC=T at*
     go_wp2_with(go_at_call 116;refine Calls.mono hst ?_;rintro e w2 ⟨rfl,h2,c2,u2⟩;have C2:=Lib.hid c2;have U2:=Lib.hid (HU.out.trans u2);clear c2 u2 hst)
     go_roundw
     case rel=>exact⟨d+n,by omega,by omega,rfl,Lib.hid ⟨k,T,h2,HR.out,M3.out,C2.out,U2.out⟩⟩
     case measure=>simp[intOf];omega
   ·simp only[af.jD,if_neg hlt,Option.some.injEq,Prod.mk.injEq]at hr
    obtain⟨r1,r2⟩:=hr
    have R1:=Lib.hid r1
    have R2:=Lib.hid r2
    have C:=Lib.hid ck
    have U:=Lib.hid uk
    clear r1 r2 ck uk HW hm
    go_wp2
    go_ret
    rw[<-R2.out,<-R1.out]
    exact⟨rfl,hk,C.out,U.out⟩
end Go.Proofs.YtibemcgdmembeaaGreat
namespace Go.Proofs.YtibemcgdmembeaaGreat
open Go.RowKit
theorem Ig(pc:Nat)(L:aX)(s:af)(w:World)(h:Hp)(hi:In w h)(hc:ah pc L s h)(hpar:s.parity=0∨s.parity=1):
  Calls Tryz.prog 72 #[ptr pc] w fun e w'=>e= .returned (.bool s.um)/\ ∃h',ah pc L s.dF h'/\aj h h' w w':=by
 have M0:=hc.vU hi
 have k20:=M0.ph
 have HC:=Lib.hid hc
 have HU:=Lib.hid (aj.refl hi)
 by_cases h0:s.phase=0
 ·have e1:s.um=true:=by unfold af.um;simp[h0]
  have e2:s.dF=uj s.t s.gB:=by unfold af.dF;rw[if_pos e1]
  rw[e1,e2]
  rw[h0]at k20
  have k19:=M0.par
  have f20:=M0.fz 20
  have f19:=M0.fz 19
  have f24:=M0.fz 24
  have k24:=M0.lk
  obtain⟨t64,tI,_,_⟩:=hc.facts
  obtain⟨h2,c2,u2⟩:=pY hc (aj.refl hi) 1
  obtain⟨h3,c3,u3⟩:=zY c2 u2 (1-s.parity)
  obtain⟨h4,c4,u4⟩:=qR c3 u3 (-1)
  have c5:ah pc L s.gB h4:=c4
  have k18:=(c5.vU u4.au).pt
  have wr:IntKind.i64.wrap (1-s.parity)=1-s.parity:=by rcases hpar with h|h<;>rw[h]<;>rfl
  have M_:=Lib.hid c5
  have XB:=Lib.hid u4
  have hp2:s.gB.parity=0∨s.gB.parity=1:=by
   show 1-s.parity=0∨1-s.parity=1
   omega
  have PD:=Lib.hid (fun W h (hW:In W h) (hc:ah pc L s.gB h)=>xH pc L s.gB W h hW hc)
  have yD:=Lib.hid (fun S a W h (hW:In W h) (hc:ah pc L S h) (ha:I64 a) (hp:S.parity=0∨S.parity=1)=>yK pc L S a W h hW hc ha hp)
  have VN:=Lib.hid (fun j (hj:j<s.t.length)=>tI (s.t.getD j 0) (Qe hj))
  have HP2:=Lib.hid hp2
  have Yu:Hid (s.gB.t=s.t):=Lib.hid rfl
  rw[Yu.out]at PD
  have HR0:Hid (uj s.t s.gB=uj (s.t.drop 0) s.gB):=Lib.hid rfl
  obtain⟨R,hR⟩: ∃R,R=uj s.t s.gB:=⟨_,rfl⟩
  rw[<-hR]at HR0⊢
  clear hR c2 u2 c3 u3 c4 u4 c5 hc M0 e1 e2 h0 hp2 tI HC hpar hi
  generalize s.gB=B at*
  generalize s.t=l at*
  simp only[ptr]at*
  go_enter Tryz.func72,Tryz.ntmps72
  go_wp2_with(go_at_call 65;refine Calls.mono (PD.out _ _ XB.out.au M_.out) ?_;rintro e w7 ⟨v7,h7,rfl,s7,u7⟩;have Vd:=Lib.hid s7;have U7:=Lib.hid (XB.out.more u7);obtain⟨Xx,QU,rfl,PE⟩:=s7.shape;clear s7 u7)
  have H0:Hid (∃S h',R=uj (l.drop 0) S/\ (S.parity=0∨S.parity=1)/\ah pc L S h'/\aj h (h7++h') w w7):=Lib.hid ⟨B,h4,HR0.out,HP2.out,M_.out,U7.out⟩
  clear XB M_ HR0 HP2 U7 k18 k19 k20 k24 f19 f20 f24 PD
  go_loopw [34] (fun i wr=> ∃j:Nat,j<=l.length/\i= .int .i64 j/\Hid (∃S h',R=uj (l.drop j) S/\ (S.parity=0∨S.parity=1)/\ah pc L S h'/\aj h (h7++h') w wr)) (fun i _=>l.length-(intOf i).toNat)
  case atStart=>exact⟨0,by omega,rfl,H0⟩
  case round=>
   obtain⟨j,hj,rfl,HJ⟩:=hrel
   obtain⟨S,hk,r1,r3,ck,uk⟩:=HJ.out
   by_cases hjl:j<l.length
   ·obtain⟨gb,off,rfl,hcj⟩:=aK.nH (kd:= .i64) Vd.out uk.au.left hjl
    rw[drop_cons hjl]at r1
    simp only[uj]at r1
    have hmk:=yD.out S (l.getD j 0) wr hk uk.au.right ck (VN.out j hjl) r3
    have T_:Hid ((S.mark (l.getD j 0)).parity=0∨(S.mark (l.getD j 0)).parity=1):=Lib.hid (by rw[(nR S _).parity];exact r3)
    have HR1:=Lib.hid r1
    have HU:=Lib.hid uk
    clear r1 uk ck HJ r3
    generalize l.getD j 0=a at*
    generalize S.mark a=T at*
    go_wp2_with(go_at_call 101;refine Calls.mono hmk ?_;rintro e w5 ⟨rfl,h5,c5,u5⟩;have U5:=Lib.hid (aj.fM HU.out u5);have C5:=Lib.hid c5;clear u5 c5 hmk)
    go_roundw
    case rel=>exact⟨j+1,by omega,by go_num,Lib.hid ⟨T,h5,HR1.out,T_.out,C5.out,U5.out⟩⟩
    case measure=>simp[intOf];omega
   ·rw[List.drop_of_length_le (by omega)]at r1
    have e1:R=S:=r1
    subst e1
    have Jt:=Lib.hid (uk.forget (List.sublist_append_right _ _))
    have HC:=Lib.hid ck
    clear HJ r1 r3 ck uk
    go_wp2
    go_ret
    exact⟨rfl,hk,HC.out,Jt.out⟩
 ·have e1:s.um=false:=by unfold af.um;simp[h0]
  have e2:s.dF=s:=by unfold af.dF;rw[e1];rfl
  rw[e1,e2]
  have q0:(s.phase !=0)=true:=by simpa using h0
  clear e1 e2 h0 hc M0
  simp only[ptr]at*
  go_enter Tryz.func72,Tryz.ntmps72
  go_wp2
  go_ret
  exact⟨rfl,h,HC.out,HU.out⟩
end Go.Proofs.YtibemcgdmembeaaGreat
