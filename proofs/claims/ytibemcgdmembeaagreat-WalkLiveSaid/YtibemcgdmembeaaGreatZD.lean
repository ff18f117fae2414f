/- What New of package core comes to. Conditions: none. -/
import Derived.Test.YtibemcgdmembeaaGreatRows
import Derived.Test.YtibemcgdmembeaaGreatZC
import Derived.Deep.RegionHeld3
import Derived.Test.YtibemcgdmembeaaGreatZA
set_option linter.unusedVariables false
set_option linter.unusedSimpArgs false
set_option maxRecDepth 100000
set_option maxHeartbeats 4000000
namespace Go.Proofs.YtibemcgdmembeaaGreat
open Go.RowKit
theorem kY(pc:Nat)(L:aX)(s:af)(i:Int)(w:World)(h:Hp)(hi:In w h)(hc:ah pc L s h):
  Calls Tryz.prog 59 #[ptr pc, .int .i64 i] w fun e w'=>
   e= .returned (.agg (aF (ag s.ws i)))/\ ∃h',ah pc L s h'/\aj h h' w w':=by
 have U0:=aj.alloc hi (.cells (aF hd0) 92 (0,0))
 have hh:=ry pc L s i _ h U0.au.tail hc
 generalize hH:ag s.ws i=H at*
 clear hH hc hi
 try simp only[aF,hd0]at hh
 try simp only[ptr]at*
 go_enter Tryz.func59,Tryz.ntmps59
 go_wp2_with(go_at_call 110;refine Calls.mono hh ?_;rintro e w1 ⟨rfl,h1,c1,u1⟩;have U1:=U0.under u1;obtain⟨d0,d1,d2,d3,d4,d5,d6⟩:=bW U1.au.head;obtain⟨f0,f1,f2,f3,f4,f5,f6⟩:=kX U1.au.head)
 have UF:=U1.hd H
 have G:=bW UF.au.head
 try simp only[aF]at G
 obtain⟨g0,g1,g2,g3,g4,g5,g6⟩:=G
 clear d0 d1 d2 d3 d4 d5 d6 f0 f1 f2 f3 f4 f5 f6
 refine bodyPost_ret (v:= .agg (aF H)) ?_ rfl ⟨rfl,_,c1,UF.drop1⟩
 simp only[results,Tryz.results59]
 simp[go_sem,aF,g0,g1,g2,g3,g4,g5,g6]
structure af.EZ(s:af)(a:Int):Prop where
 m:s.Mv
 to:s.y.dI a=true->s.now a=a->I64 (s.kD a)
def af.dV(s:af)(a:Int)(k:Nat):af:=
 if s.dA (aQ s.ws a k)=aQ s.ws a k then s.move (aQ s.ws a k)else {s.move (aQ s.ws a k)with ws:=iQ (s.move (aQ s.ws a k)).ws (place a k) (u64 (s.dA (aQ s.ws a k)))}
def af.GI(s:af)(a:Int)(k:Nat):Bool:=(s.dV a k).y.isIn (s.dA (aQ s.ws a k))
def af.jb(s:af)(a:Int):Nat->af
 |0=>s
 |k+1=>(s.jb a k).dV a k
def af.iU(s:af)(a:Int):Nat->Bool
 |0=>false
 |k+1=>s.iU a k||(s.jb a k).GI a k
def af.bQ(s:af)(a:Int):Nat:=(ag s.ws a).ptrs.toNat
def af.through(s:af)(a:Int):af:=if s.iU a (s.bQ a)then(s.jb a (s.bQ a)).note a else s.jb a (s.bQ a)
theorem GK(ws:List Int)(a k:Int):I64 (aQ ws a k):=I64.wrap _
theorem qM(pc:Nat)(L:aX)(s:af)(a:Int)(w:World)(h:Hp)(hi:In w h)(hc:ah pc L s h)(ha:I64 a)(hm: ∀k,k<s.bQ a->(s.jb a k).EZ (aQ (s.jb a k).ws a k)):
  Calls Tryz.prog 150 #[ptr pc, .int .i64 a] w fun e w'=>
   e= .returned (.int .i64 (ag s.ws a).words)/\ ∃h',ah pc L (s.through a) h'/\aj h h' w w':=by
 have hG:(ag s.ws a).Good:=dU _
 have hG0:=hG
 obtain⟨g1,g2,g3,g4,g5,g6,g7⟩:=hG
 have hH:=kY pc L s a w h hi hc
 have hwx:=mM (ag s.ws a) hG0
 obtain⟨p,hp⟩: ∃p:Nat,(ag s.ws a).ptrs=p:=⟨(ag s.ws a).ptrs.toNat,by omega⟩
 have hpp:s.bQ a=p:=by simp[af.bQ,hp]
 have Wl:s.through a=if s.iU a p then(s.jb a p).note a else s.jb a p:=by rw[af.through,hpp]
 have HTH:=Lib.hid Wl
 rw[hpp]at hm
 have HM:=Lib.hid hm
 have p64:p<=64:=by omega
 have UR:=Lib.hid (fun s k W h (hW:In W h) (hc:ah pc L s h)=>uI pc L s a k W h hW hc)
 have Yk:=Lib.hid (fun s r W h (hW:In W h) (hc:ah pc L s h) (hr:I64 r) (m:s.EZ r)=>yN pc L s r W h hW hc hr m.m m.to)
 have HFl:=Lib.hid (fun ws k v W h (hW:In W h) (ca:dZ L.pa ws h) (hv:C_ v)=>sK L.pa ws a k v W h hW ca hv)
 have Ru:=Lib.hid (fun y i W h (hW:In W h) (cy:gy L.py y h) (hb:I64 i)=>KJ L.py y i W h hW cy hb)
 have Ry:=Lib.hid (fun s W h (hW:In W h) (hc:ah pc L s h)=>D9 pc L s a W h hW hc ha)
 have UT:Hid (∀s:af,∀r,I64 r->s.EZ r->I64 (s.dA r)):=Lib.hid (by
  intro s r hr m
  unfold af.dA
  split
  ·exact hr
  ·split
   ·rename_i h1 h2
    refine m.to ?_ h2
    cases hq:s.y.dI r
    ·exact absurd (.inr hq) h1
    ·rfl
   ·exact s.xO hr)
 have hS0:s.jb a 0=s:=rfl
 have HY0:Hid (s.iU a 0=false):=Lib.hid rfl
 have HT:Hid (∀k,s.jb a (k+1)=(s.jb a k).dV a k/\s.iU a (k+1)=(s.iU a k||(s.jb a k).GI a k)):=Lib.hid (fun _=>⟨rfl,rfl⟩)
 generalize Wn:ag s.ws a=H at*
 clear Wl hpp hc hi hm Wn hG0
 obtain⟨x1,x2,x3,x4,x5,x6,x7⟩:=H
 simp only at hp g1 g2 g3 g4
 subst hp
 have H0:Hid (∀w3 h3,ah pc L s h3->aj h ((w3, .cells #[.int .i64 x1, .int .i64 p, .int .i64 x3, .int .i64 x4, .bool x5, .bool x6, .bool x7] 92 (0,0))::h3) w w->True):=Lib.hid fun _ _ _ _=>trivial
 simp only[aF]at*
 simp only[ptr]at*
 go_enter Tryz.func150,Tryz.ntmps150
 go_wp2_with(go_at_call 59;refine Calls.mono hH ?_;rintro e w3 ⟨rfl,h3,c3,u3⟩;have U3:=Lib.hid (u3.alloc' (.cells #[.int .i64 x1, .int .i64 p, .int .i64 x3, .int .i64 x4, .bool x5, .bool x6, .bool x7] 92 (0,0)));have C3:=Lib.hid c3;clear u3 c3 hH)
 generalize w3.heap.size=lb at*
 go_loopw [6,15] (fun v i wr=> ∃k:Nat,k<=p/\i= .int .i64 k/\v= .bool (s.iU a k)/\Hid (∃h',ah pc L (s.jb a k) h'/\aj h ((lb, .cells #[.int .i64 x1, .int .i64 p, .int .i64 x3, .int .i64 x4, .bool x5, .bool x6, .bool x7] 92 (0,0))::h') w wr)) (fun _ i _=>p-(intOf i).toNat)
 case atStart=>exact⟨0,by omega,rfl,rfl,Lib.hid ⟨h3,C3.out,U3.out⟩⟩
 case round=>
  obtain⟨k,hk,rfl,rfl,HW⟩:=hrel
  by_cases hlt:k<p
  ·have hmk:=HM.out k hlt
   obtain⟨hk1,ck,uk⟩:=HW.out
   obtain⟨t1,t2⟩:=HT.out k
   have VK:I64 (aQ (s.jb a k).ws a k):=GK ..
   have hone:(s.jb a k).dV a k=if(s.jb a k).dA (aQ (s.jb a k).ws a k)=aQ (s.jb a k).ws a k then(s.jb a k).move (aQ (s.jb a k).ws a k)else { (s.jb a k).move (aQ (s.jb a k).ws a k)with ws:=iQ ((s.jb a k).move (aQ (s.jb a k).ws a k)).ws (place a k) (u64 ((s.jb a k).dA (aQ (s.jb a k).ws a k)))}:=rfl
   have hin:(s.jb a k).GI a k=((s.jb a k).dV a k).y.isIn ((s.jb a k).dA (aQ (s.jb a k).ws a k)):=rfl
   have hTI:=UT.out _ _ VK hmk
   rw[hin]at t2
   have vJ:=UR.out (s.jb a k) k wr hk1 uk.au.tail ck
   have HT1:=Lib.hid t1
   have HT2:=Lib.hid t2
   have Wp:=Lib.hid hone
   have Ah:=Lib.hid uk
   have yD:=Lib.hid hmk
   clear t1 t2 hone hin uk ck HW hmk
   generalize s.jb a k=S at*
   generalize S.dV a k=S1 at*
   generalize aQ S.ws a k=r at*
   generalize s.iU a k=Y at*
   have hmv:=fun W h (hW:In W h) (hc:ah pc L S h)=>Yk.out S r W h hW hc VK yD.out
   have hwr:IntKind.u64.wrap (S.dA r)=u64 (S.dA r):=IntKind.wrap_u64 _
   generalize S.dA r=T at*
   generalize S.move r=M at*
   have VL:=Lib.hid hmv
   clear hmv
   by_cases q:T=r
   ·have UU:Hid (S1=M):=Lib.hid (by rw[Wp.out,if_pos q])
    subst q
    have q2:(T !=T)=false:=by simp
    cases Y
    ·go_wp2_with(first
      | (go_at_call 61;refine Calls.mono vJ ?_;rintro e w4 ⟨rfl,h4,c4,u4⟩;have U4:=Lib.hid (Ah.out.under u4);have C4:=Lib.hid c4;clear u4 c4 vJ)
      | (go_at_call 100;refine Calls.mono (VL.out _ _ U4.out.au.tail C4.out) ?_;rintro e w5 ⟨rfl,h5,c5,u5⟩;have U5:=Lib.hid (U4.out.under u5);(obtain⟨v5,AZ,vK,vM,vN,hg5,vX,hw5,rfl,rD,yM,zU,zV,yL,zW,xQ⟩:=c5);(obtain⟨wQ,UW,_,_,_,_⟩:=aS (In.core (x:=[_]) U5.out.au));simp only[ptr]at wQ UW;clear u5)
      | (go_at_call 43;refine Calls.mono (Ru.out _ _ _ _ (In.fG (x:=[_]) U5.out.au) yM hTI) ?_;rintro e w7 ⟨rfl,u7⟩;have U7:=Lib.hid (aj.fG (x:=[_]) U5.out u7);clear u7))
     go_roundw
     case rel=>exact⟨k+1,by omega,by go_num,by rw[HT2.out,UU.out];rfl,Lib.hid ⟨_,by rw[HT1.out,UU.out];exact⟨v5,AZ,vK,vM,vN,hg5,vX,hw5,rfl,rD,yM,zU,zV,yL,zW,xQ⟩,U7.out⟩⟩
     case measure=>simp[intOf];omega
    ·go_wp2_with(first
      | (go_at_call 61;refine Calls.mono vJ ?_;rintro e w4 ⟨rfl,h4,c4,u4⟩;have U4:=Lib.hid (Ah.out.under u4);have C4:=Lib.hid c4;clear u4 c4 vJ)
      | (go_at_call 100;refine Calls.mono (VL.out _ _ U4.out.au.tail C4.out) ?_;rintro e w5 ⟨rfl,h5,c5,u5⟩;have U5:=Lib.hid (U4.out.under u5);(obtain⟨v5,AZ,vK,vM,vN,hg5,vX,hw5,rfl,rD,yM,zU,zV,yL,zW,xQ⟩:=c5);(obtain⟨wQ,UW,_,_,_,_⟩:=aS (In.core (x:=[_]) U5.out.au));simp only[ptr]at wQ UW;clear u5))
     go_roundw
     case rel=>exact⟨k+1,by omega,by go_num,by rw[HT2.out];rfl,Lib.hid ⟨_,by rw[HT1.out,UU.out];exact⟨v5,AZ,vK,vM,vN,hg5,vX,hw5,rfl,rD,yM,zU,zV,yL,zW,xQ⟩,U5.out⟩⟩
     case measure=>simp[intOf];omega
   ·have UU:Hid (S1={M with ws:=iQ M.ws (place a k) (u64 T)}):=Lib.hid (by rw[Wp.out,if_neg q])
    have q2:(T !=r)=true:=by simpa using q
    clear q
    cases Y
    ·go_wp2_with(first
      | (go_at_call 61;refine Calls.mono vJ ?_;rintro e w4 ⟨rfl,h4,c4,u4⟩;have U4:=Lib.hid (Ah.out.under u4);have C4:=Lib.hid c4;clear u4 c4 vJ)
      | (go_at_call 100;refine Calls.mono (VL.out _ _ U4.out.au.tail C4.out) ?_;rintro e w5 ⟨rfl,h5,c5,u5⟩;have U5:=Lib.hid (U4.out.under u5);(obtain⟨v5,AZ,vK,vM,vN,hg5,vX,hw5,rfl,rD,yM,zU,zV,yL,zW,xQ⟩:=c5);(obtain⟨wQ,UW,_,_,_,_⟩:=aS (In.core (x:=[_]) U5.out.au));simp only[ptr]at wQ UW;clear u5)
      | (go_at_call 102;refine Calls.mono (HFl.out _ _ _ _ _ (In.arena (x:=[_]) U5.out.au) rD (Ag _)) ?_;rintro e w6 ⟨rfl,ha6,Wq,u6⟩;have U6:=Lib.hid (aj.arena (x:=[_]) U5.out u6);(obtain⟨Yl,Ym,_,_,_,_⟩:=aS (In.core (x:=[_]) U6.out.au));simp only[ptr]at Yl Ym;clear u6)
      | (go_at_call 43;refine Calls.mono (Ru.out _ _ _ _ (In.fG (x:=[_]) U6.out.au) yM hTI) ?_;rintro e w7 ⟨rfl,u7⟩;have U7:=Lib.hid (aj.fG (x:=[_]) U6.out u7);clear u7))
     go_roundw
     case rel=>exact⟨k+1,by omega,by go_num,by rw[HT2.out,UU.out];rfl,Lib.hid ⟨_,by rw[HT1.out,UU.out];exact⟨v5,ha6,vK,vM,vN,hg5,vX,hw5,rfl,Wq,yM,zU,zV,yL,zW,xQ⟩,U7.out⟩⟩
     case measure=>simp[intOf];omega
    ·go_wp2_with(first
      | (go_at_call 61;refine Calls.mono vJ ?_;rintro e w4 ⟨rfl,h4,c4,u4⟩;have U4:=Lib.hid (Ah.out.under u4);have C4:=Lib.hid c4;clear u4 c4 vJ)
      | (go_at_call 100;refine Calls.mono (VL.out _ _ U4.out.au.tail C4.out) ?_;rintro e w5 ⟨rfl,h5,c5,u5⟩;have U5:=Lib.hid (U4.out.under u5);(obtain⟨v5,AZ,vK,vM,vN,hg5,vX,hw5,rfl,rD,yM,zU,zV,yL,zW,xQ⟩:=c5);(obtain⟨wQ,UW,_,_,_,_⟩:=aS (In.core (x:=[_]) U5.out.au));simp only[ptr]at wQ UW;clear u5)
      | (go_at_call 102;refine Calls.mono (HFl.out _ _ _ _ _ (In.arena (x:=[_]) U5.out.au) rD (Ag _)) ?_;rintro e w6 ⟨rfl,ha6,Wq,u6⟩;have U6:=Lib.hid (aj.arena (x:=[_]) U5.out u6);(obtain⟨Yl,Ym,_,_,_,_⟩:=aS (In.core (x:=[_]) U6.out.au));simp only[ptr]at Yl Ym;clear u6))
     go_roundw
     case rel=>exact⟨k+1,by omega,by go_num,by rw[HT2.out];rfl,Lib.hid ⟨_,by rw[HT1.out,UU.out];exact⟨v5,ha6,vK,vM,vN,hg5,vX,hw5,rfl,Wq,yM,zU,zV,yL,zW,xQ⟩,U6.out⟩⟩
     case measure=>simp[intOf];omega
  ·obtain rfl:k=p:=by omega
   obtain⟨hk1,ck,uk⟩:=HW.out
   have bx:=uk.au.head
   have Ah:=Lib.hid uk
   have UZ:=Lib.hid ck
   have hno:=fun W h (hW:In W h) (hc:ah pc L (s.jb a k) h)=>Ry.out (s.jb a k) W h hW hc
   have HN:=Lib.hid hno
   clear hno uk ck HW
   generalize hS:s.jb a k=S at*
   have z0:=cell_of bx 0
   have z1:=cell_of bx 1
   have z2:=cell_of bx 2
   have z3:=cell_of bx 3
   have z4:=cell_of bx 4
   have z5:=cell_of bx 5
   have z6:=cell_of bx 6
   simp only[List.getElem?_toArray,List.getElem?_cons_succ,List.getElem?_cons_zero]at z0 z1 z2 z3 z4 z5 z6
   have HS:=Lib.hid hS
   clear bx hS
   cases hY:s.iU a k
   ·have HY:=Lib.hid hY
    clear hY
    go_wp2_with(go_at_call 77;refine Calls.mono (hwx _) ?_;rintro e w9 ⟨rfl,u9⟩;have U9:=Lib.hid (Ah.out.dK u9);clear u9)
    go_ret
    exact⟨rfl,hk1,by rw[HTH.out,HY.out];exact UZ.out,U9.out.drop1⟩
   ·have HY:=Lib.hid hY
    clear hY
    go_wp2_with(first
     | (go_at_call 103;refine Calls.mono (HN.out _ _ Ah.out.au.tail UZ.out) ?_;rintro e w8 ⟨rfl,h8,c8,u8⟩;have U8:=Lib.hid (Ah.out.under u8);have C8:=Lib.hid c8;clear z0 z1 z2 z3 z4 z5 z6;have z0:=cell_of U8.out.au.head 0;have z1:=cell_of U8.out.au.head 1;have z2:=cell_of U8.out.au.head 2;have z3:=cell_of U8.out.au.head 3;have z4:=cell_of U8.out.au.head 4;have z5:=cell_of U8.out.au.head 5;have z6:=cell_of U8.out.au.head 6;simp only[List.getElem?_toArray,List.getElem?_cons_succ,List.getElem?_cons_zero]at z0 z1 z2 z3 z4 z5 z6;clear u8 c8)
     | (go_at_call 77;refine Calls.mono (hwx _) ?_;rintro e w9 ⟨rfl,u9⟩;have U9:=Lib.hid (U8.out.dK u9);clear u9))
    go_ret
    exact⟨rfl,h8,by rw[HTH.out,HY.out];exact C8.out,U9.out.drop1⟩
end Go.Proofs.YtibemcgdmembeaaGreat
namespace Go.Proofs.YtibemcgdmembeaaGreat
open Go.RowKit
def af.qm(s:af)(a:Int):Prop:= ∀k,k<s.bQ a->(s.jb a k).EZ (aQ (s.jb a k).ws a k)
def af.dL(s:af)(a:Int):af:={s with ws:=iQ s.ws a {ag s.ws a with aY:=false}.enc}
def af.iV(s:af)(a:Int):Bool:=(s.o.aH a).isSome&& (ag s.ws a).aY
def af.fD(s:af)(a:Int):af:=if s.iV a then(s.dL a).through a else s
def af.kK(s:af)(a:Int):Int:=if s.iV a then(ag (s.dL a).ws a).words else 0
theorem aj.Yn{w0 w w':World}{h0:Hp}{pc:Nat}{o:Obj}{ha hy ho hr hg ht hw k:Hp}(a:aj h0 (aI pc o ha hy ho hr hg ht hw).flatten w0 w)(u:aj ho k w w'):aj h0 (aI pc o ha hy k hr hg ht hw).flatten w0 w':=aj.old (x:=[]) a u
theorem D_(pc:Nat)(L:aX)(s:af)(a:Int)(w:World)(h:Hp)(hi:In w h)(hc:ah pc L s h)(ok:s.o.Ok)(ha:I64 a):
  Calls Tryz.prog 42 #[.pointer (some ⟨L.po,0,none⟩), .int .i64 a] w fun e w'=>e= .returned (.tuple #[.int .i64 (UB (s.o.aH a)), .bool (s.o.aH a).isSome])/\aj h h w w':=by
 obtain⟨v,ha',hy,ho,hr,hg,ht,hw,rfl,ca,cy,co,cr,cg,ct,cw⟩:=hc
 exact Calls.mono (Gv L.po s.o a w ho (In.old (x:=[]) hi) co ok ha) fun e w' hh=>⟨hh.1,aj.Yn (aj.refl hi) hh.2⟩
theorem zx(pc:Nat)(L:aX)(s:af)(a:Int)(w:World)(h:Hp)(hi:In w h)(hc:ah pc L s h)(ok:s.o.Ok)(ha:I64 a)(hm:s.iV a=true->(s.dL a).qm a):
  Calls Tryz.prog 149 #[ptr pc, .int .i64 a] w fun e w'=>e= .returned (.int .i64 (s.kK a))/\ ∃h',ah pc L (s.fD a) h'/\aj h h' w w':=by
 have hsz:=D_ pc L s a w h hi hc ok ha
 have p3:=(ah.ptrs (x:=[]) hc hi).2.2.1
 have HH:=Lib.hid (fun W (hW:In W h)=>kY pc L s a W h hW hc)
 have HC:=Lib.hid hc
 have Yo:Hid (s.iV a=((s.o.aH a).isSome&& (ag s.ws a).aY)):=Lib.hid rfl
 clear hc hi
 generalize UB (s.o.aH a)=sv at*
 cases hS:(s.o.aH a).isSome
 ·have HV:Hid (s.iV a=false):=Lib.hid (by rw[Yo.out,hS];rfl)
  have HN:Hid (s.kK a=0):=Lib.hid (by rw[af.kK,HV.out];rfl)
  have HT:Hid (s.fD a=s):=Lib.hid (by rw[af.fD,HV.out];rfl)
  rw[HN.out]
  rw[hS]at hsz
  clear hS hm
  simp only[ptr]at*
  go_enter Tryz.func149,Tryz.ntmps149
  go_wp2_with(go_at_call 42;refine Calls.mono hsz ?_;rintro e w1 ⟨rfl,u1⟩;have U1:=Lib.hid u1;clear u1 hsz)
  go_ret
  exact⟨rfl,h,by rw[HT.out];exact HC.out,U1.out⟩
 ·rw[hS]at hsz
  cases hn:(ag s.ws a).aY
  ·have HV:Hid (s.iV a=false):=Lib.hid (by rw[Yo.out,hS,hn];rfl)
   have HN:Hid (s.kK a=0):=Lib.hid (by rw[af.kK,HV.out];rfl)
   have HT:Hid (s.fD a=s):=Lib.hid (by rw[af.fD,HV.out];rfl)
   rw[HN.out]
   generalize ag s.ws a=H at*
   obtain⟨x1,x2,x3,x4,x5,x6,x7⟩:=H
   simp only at hn
   subst hn
   clear hS hm
   simp only[aF]at HH
   simp only[ptr]at*
   go_enter Tryz.func149,Tryz.ntmps149
   go_wp2_with(first
    | (go_at_call 42;refine Calls.mono hsz ?_;rintro e w1 ⟨rfl,u1⟩;have U1:=Lib.hid u1;clear u1 hsz)
    | (go_at_call 59;refine Calls.mono (HH.out _ U1.out.au) ?_;rintro e w2 ⟨rfl,h2,c2,u2⟩;have U2:=Lib.hid ((U1.out.trans u2).alloc' (.cells #[.int .i64 x1, .int .i64 x2, .int .i64 x3, .int .i64 x4, .bool x5, .bool false, .bool x7] 92 (0,0)));have C2:=Lib.hid c2;clear u2 c2))
   go_ret
   exact⟨rfl,h2,by rw[HT.out];exact C2.out,U2.out.drop1⟩
  ·have hv:s.iV a=true:=by rw[Yo.out,hS,hn];rfl
   have HN:Hid (s.kK a=(ag (s.dL a).ws a).words):=Lib.hid (by rw[af.kK,hv];rfl)
   have HT:Hid (s.fD a=(s.dL a).through a):=Lib.hid (by rw[af.fD,hv];rfl)
   have hG:(ag s.ws a).Good:=dU _
   obtain⟨g1,g2,g3,g4,g5,g6,g7⟩:=hG
   have hset:=fun W h (hW:In W h) (hc:ah pc L s h)=>pG pc L s a {ag s.ws a with aY:=false} ⟨g1,g2,g3,g4,g5,g6,g7⟩ W h hW hc
   have hun:s.dL a={s with ws:=iQ s.ws a {ag s.ws a with aY:=false}.enc}:=rfl
   rw[<-hun]at hset
   have Jq:=Lib.hid (fun W h (hW:In W h) (hc:ah pc L (s.dL a) h)=>qM pc L (s.dL a) a W h hW hc ha (hm hv))
   rw[HN.out]
   clear hun
   generalize s.dL a=S1 at*
   generalize ag s.ws a=H at*
   obtain⟨x1,x2,x3,x4,x5,x6,x7⟩:=H
   simp only at hn
   subst hn
   have Ws:=Lib.hid hset
   clear hS hm hset hv g1 g2 g3 g4 g5 g6 g7
   generalize ag S1.ws a=H1 at*
   simp only[aF]at HH Ws
   simp only[ptr]at*
   go_enter Tryz.func149,Tryz.ntmps149
   go_wp2_with(first
    | (go_at_call 42;refine Calls.mono hsz ?_;rintro e w1 ⟨rfl,u1⟩;have U1:=Lib.hid u1;clear u1 hsz)
    | (go_at_call 59;refine Calls.mono (HH.out _ U1.out.au) ?_;rintro e w2 ⟨rfl,h2,c2,u2⟩;have U2:=Lib.hid ((U1.out.trans u2).alloc' (.cells #[.int .i64 x1, .int .i64 x2, .int .i64 x3, .int .i64 x4, .bool x5, .bool false, .bool x7] 92 (0,0)));have C2:=Lib.hid c2;clear u2 c2)
    | (go_at_call 140;refine Calls.mono (Ws.out _ _ U2.out.au.tail C2.out) ?_;rintro e w3 ⟨rfl,h3,c3,u3⟩;have U3:=Lib.hid (U2.out.under u3);have C3:=Lib.hid c3;clear u3 c3)
    | (go_at_call 150;refine Calls.mono (Jq.out _ _ U3.out.au.tail C3.out) ?_;rintro e w4 ⟨rfl,h4,c4,u4⟩;have U4:=Lib.hid (U3.out.under u4);have C4:=Lib.hid c4;clear u4 c4))
   go_ret
   exact⟨rfl,h4,by rw[HT.out];exact C4.out,U4.out.drop1⟩
def af.h_(s:af):Int:=s.row.headD 0
def af.mY(s:af):af:={s with row:=s.row.tail}
def af.rF(s:af):af:=if(s.o.aH s.h_).isSome then s.mY.through s.h_ else s.mY
def af.yO(s:af):Int:=if(s.o.aH s.h_).isSome then(ag s.ws s.h_).words else 1
theorem MX(pc:Nat)(L:aX)(s:af)(w:World)(h:Hp)(hi:In w h)(hc:ah pc L s h)(ok:s.o.Ok)(hr:0<s.row.length)(hb:s.row.length<=1000000)(ha:I64 s.h_)(hm:(s.o.aH s.h_).isSome=true->s.mY.qm s.h_):
  Calls Tryz.prog 146 #[ptr pc] w fun e w'=>e= .returned (.int .i64 s.yO)/\ ∃h',ah pc L s.rF h'/\aj h h' w w':=by
 obtain⟨v,ha',hy,ho,hr',hg,ht,hw,rfl,ca,cy,co,cr,cg,ct,cw⟩:=hc
 obtain⟨a,tl,has⟩: ∃a tl,s.row=a::tl:=by
  cases hq:s.row with
  |nil=>rw[hq]at hr;simp at hr
  |cons a tl=>exact⟨a,tl,rfl⟩
 have ea:s.h_=a:=by simp[af.h_,has]
 have eu:s.mY={s with row:=tl}:=by simp[af.mY,has]
 have XC:Hid (s.rF=if(s.o.aH a).isSome then({s with row:=tl}:af).through a else {s with row:=tl}):=Lib.hid (by rw[af.rF,ea,eu])
 have Pq:Hid (s.yO=if(s.o.aH a).isSome then(ag s.ws a).words else 1):=Lib.hid (by rw[af.yO,ea])
 rw[ea]at ha hm
 rw[eu]at hm
 have hlen:s.row.length=tl.length+1:=by rw[has];rfl
 rw[hlen,has]at cw
 obtain⟨g,off,cap,rfl,hcap,hR⟩:=aK.rest (n:=tl.length) (x:= .int .i64 a) (xs:=ints tl) (by simpa[ints]using cw)
 have hin:=In.rows (x:=[]) hi
 have hx:w.cell? ⟨g,off,none⟩=some (.int .i64 a):=by have:=cw.cell hin rfl (j:=0) (by simp);simpa using this
 have U0:=aj.refl hi
 have k25:=bU (In.core (x:=[]) hi) 25
 have y25:=aZ (In.core (x:=[]) hi) 25
 have p3:=(aS (In.core (x:=[]) hi)).2.2.1
 simp only[gm,List.getElem?_toArray,List.getElem?_cons_succ,List.getElem?_cons_zero,ptr]at k25 p3
 have hb2:tl.length+1<=1000000:=by omega
 have HF:Hid (∀off',aK 3 1 (.slice (some ⟨g,off',none⟩) tl.length (cap-1)) tl.length (ints tl) hw-> ∃h',ah pc L {s with row:=tl} h'/\aj (aI pc (bG L s (.slice (some ⟨g,off,none⟩) (tl.length+1) cap)) ha' hy ho hr' hg ht hw).flatten h' w (w.setCell ⟨pc,25,none⟩ (.slice (some ⟨g,off',none⟩) tl.length (cap-1)))):=Lib.hid (by
  intro off' hS
  exact⟨_,⟨_,ha',hy,ho,hr',hg,ht,hw,rfl,ca,cy,co,cr,cg,ct,hS⟩,aj.core (x:=[]) U0 25 _⟩)
 have XD:=Lib.hid (fun W h (hW:In W h) (hc:ah pc L {s with row:=tl} h)=>D_ pc L {s with row:=tl} a W h hW hc ok ha)
 have Jq:=Lib.hid (fun(hq:(s.o.aH a).isSome=true) W h (hW:In W h) (hc:ah pc L {s with row:=tl} h)=>qM pc L {s with row:=tl} a W h hW hc ha (hm hq))
 have HP:Hid (∀W h,In W h->ah pc L {s with row:=tl} h->W.cell? ⟨pc,15,none⟩=some (.pointer (some ⟨L.po,0,none⟩))):=Lib.hid (fun W h hW hc=>(ah.ptrs (x:=[]) hc hW).2.2.1)
 clear ca cy co cr cg ct cw hi ea eu has hlen hm hin U0 hb hr p3
 generalize Yp:(aI pc (bG L s (.slice (some ⟨g,off,none⟩) (tl.length+1) cap)) ha' hy ho hr' hg ht hw).flatten=hO at*
 clear Yp
 by_cases hc:1=cap
 ·rw[if_pos hc]at hR
  subst hc
  obtain rfl:tl=[]:=List.eq_nil_of_length_eq_zero (by omega)
  obtain⟨h1,c1,u1⟩:=HF.out off hR
  have hsz:=XD.out _ _ u1.au c1
  have p3:=HP.out _ _ u1.au c1
  have U1:=Lib.hid u1
  have C1:=Lib.hid c1
  have Pv:=Jq
  clear u1 c1 hR HF XD HP Jq
  simp only[List.length_nil,Nat.zero_add]at*
  simp only[ptr]at*
  cases hq:(s.o.aH a).isSome
  ·rw[hq]at hsz
   have HN:Hid (s.yO=1):=Lib.hid (by rw[Pq.out,hq];rfl)
   rw[HN.out]
   have HQ:=Lib.hid hq
   clear hq
   go_enter Tryz.func146,Tryz.ntmps146
   go_wp2_with(go_at_call 42;refine Calls.mono hsz ?_;rintro e w2 ⟨rfl,u2⟩;have U2:=Lib.hid (U1.out.trans u2);clear u2 hsz)
   go_ret
   exact⟨rfl,h1,by rw[XC.out,HQ.out];exact C1.out,U2.out⟩
  ·rw[hq]at hsz
   have HN:Hid (s.yO=(ag s.ws a).words):=Lib.hid (by rw[Pq.out,hq];rfl)
   rw[HN.out]
   have U_:=Lib.hid (Pv.out hq)
   have HQ:=Lib.hid hq
   clear hq Pv
   go_enter Tryz.func146,Tryz.ntmps146
   go_wp2_with(first
    | (go_at_call 42;refine Calls.mono hsz ?_;rintro e w2 ⟨rfl,u2⟩;have U2:=Lib.hid (U1.out.trans u2);clear u2 hsz)
    | (go_at_call 150;refine Calls.mono (U_.out _ _ U2.out.au C1.out) ?_;rintro e w4 ⟨rfl,h4,c4,u4⟩;have U4:=Lib.hid (U2.out.trans u4);have C4:=Lib.hid c4;clear u4 c4))
   go_ret
   exact⟨rfl,h4,by rw[XC.out,HQ.out];exact C4.out,U4.out⟩
 ·rw[if_neg hc]at hR
  obtain⟨h1,c1,u1⟩:=HF.out (off+1) hR
  have hsz:=XD.out _ _ u1.au c1
  have p3:=HP.out _ _ u1.au c1
  have U1:=Lib.hid u1
  have C1:=Lib.hid c1
  have Pv:=Jq
  clear u1 c1 hR HF XD HP Jq
  simp only[List.length_nil,Nat.zero_add]at*
  simp only[ptr]at*
  cases hq:(s.o.aH a).isSome
  ·rw[hq]at hsz
   have HN:Hid (s.yO=1):=Lib.hid (by rw[Pq.out,hq];rfl)
   rw[HN.out]
   have HQ:=Lib.hid hq
   clear hq
   go_enter Tryz.func146,Tryz.ntmps146
   go_wp2_with(go_at_call 42;refine Calls.mono hsz ?_;rintro e w2 ⟨rfl,u2⟩;have U2:=Lib.hid (U1.out.trans u2);clear u2 hsz)
   go_ret
   exact⟨rfl,h1,by rw[XC.out,HQ.out];exact C1.out,U2.out⟩
  ·rw[hq]at hsz
   have HN:Hid (s.yO=(ag s.ws a).words):=Lib.hid (by rw[Pq.out,hq];rfl)
   rw[HN.out]
   have U_:=Lib.hid (Pv.out hq)
   have HQ:=Lib.hid hq
   clear hq Pv
   go_enter Tryz.func146,Tryz.ntmps146
   go_wp2_with(first
    | (go_at_call 42;refine Calls.mono hsz ?_;rintro e w2 ⟨rfl,u2⟩;have U2:=Lib.hid (U1.out.trans u2);clear u2 hsz)
    | (go_at_call 150;refine Calls.mono (U_.out _ _ U2.out.au C1.out) ?_;rintro e w4 ⟨rfl,h4,c4,u4⟩;have U4:=Lib.hid (U2.out.trans u4);have C4:=Lib.hid c4;clear u4 c4))
   go_ret
   exact⟨rfl,h4,by rw[XC.out,HQ.out];exact C4.out,U4.out⟩
end Go.Proofs.YtibemcgdmembeaaGreat
namespace Go.Proofs.YtibemcgdmembeaaGreat
open Go.RowKit
theorem uK(pc:Nat)(L:aX)(s:af)(lo hi:Int)(w:World)(h:Hp)(hw:In w h)(hc:ah pc L s h)(ok:s.o.Ok):
  Calls Tryz.prog 167 #[.pointer (some ⟨L.po,0,none⟩), .int .i64 lo, .int .i64 hi] w fun e w'=> ∃v h',e= .returned v/\aK 3 1 v (s.o.starts lo hi).length (ints (s.o.starts lo hi)) h'/\aj h (h'++h) w w':=by
 obtain⟨v,ha',hy,ho,hr,hg,ht,hw',rfl,ca,cy,co,cr,cg,ct,cw⟩:=hc
 refine Calls.mono (Dn L.po s.o lo hi w ho (In.old (x:=[]) hw) co ok) fun e w' hh=> ?_
 obtain⟨v',h',he,hs,u⟩:=hh
 refine⟨v',h',he,hs, ?_⟩
 have p:=kS (l:=aI pc (bG L s v) ha' hy ho hr hg ht hw') (i:=3) (x:=ho) rfl
 have u2:=u.beside (k:=((aI pc (bG L s v) ha' hy ho hr hg ht hw').eraseIdx 3).flatten) (hw.perm p)
 refine u2.perm p.symm ?_
 rw[List.append_assoc]
 exact p.symm.append_left h'
def af.iF(s:af)(l:List Int):af:=l.foldl af.fD s
def nI:af->List Int->Int
 |_,[]=>0
 |s,a::l=>s.kK a+nI (s.fD a) l
theorem Jr(s:af)(l:List Int)(a:Int):s.iF (l++[a])=(s.iF l).fD a:=by simp[af.iF]
theorem Bi: ∀(l:List Int) (s:af) (a:Int),nI s (l++[a])=nI s l+(s.iF l).kK a
 |[],s,a=>by simp[nI,af.iF]
 |b::l,s,a=>by
  have:=Bi l (s.fD b) a
  simp only[List.cons_append,nI,this]
  rw[Int.add_assoc]
  rfl
theorem kz(s:af)(a:Int):0<=s.kK a/\s.kK a<=66:=by
 unfold af.kK
 split
 ·obtain⟨g1,g2,_⟩:=dU (oU (s.dL a).ws a)
  have:(ag (s.dL a).ws a).words=(Ai (oU (s.dL a).ws a)).size+2:=rfl
  omega
 ·omega
theorem kZ: ∀(l:List Int) (s:af),0<=nI s l/\nI s l<=l.length*66
 |[],s=>by simp[nI]
 |a::l,s=>by
  have:=kZ l (s.fD a)
  have:=kz s a
  simp only[nI,List.length_cons]
  omega
def af.Bj(s:af)(l:List Int):Prop:= ∀(j:Nat) (a:Int),l[j]? =some a->(s.iF (l.take j)).o.Ok/\I64 a/\ ((s.iF (l.take j)).iV a=true->((s.iF (l.take j)).dL a).qm a)
theorem Js(pc:Nat)(L:aX)(s:af)(lo hi:Int)(w:World)(h:Hp)(hw:In w h)(hc:ah pc L s h)(ok:s.o.Ok)(hm:s.Bj (s.o.starts lo hi)):
  Calls Tryz.prog 148 #[ptr pc, .int .i64 lo, .int .i64 hi] w fun e w'=>e= .returned (.int .i64 (nI s (s.o.starts lo hi)))/\ ∃h',ah pc L (s.iF (s.o.starts lo hi)) h'/\aj h h' w w':=by
 have hst:=uK pc L s lo hi w h hw hc ok
 have p3:=(ah.ptrs (x:=[]) hc hw).2.2.1
 have hlen:(s.o.starts lo hi).length<=16384:=by
  have h1:=jO ok lo hi s.o.pages.length
  obtain⟨v,ha',hy,ho,hr,hg,ht,hw',rfl,ca,cy,co,cr,cg,ct,cw⟩:=hc
  obtain⟨b,rows,m⟩:=co.rows
  obtain⟨a1,a2,a3,a4,a5⟩:=m.2.2.2
  show(s.o.bJ lo hi s.o.pages.length).length<=_
  omega
 generalize hl:s.o.starts lo hi=l at*
 have HM:=Lib.hid hm
 have Ry:=Lib.hid (fun s a W h (hW:In W h) (hc:ah pc L s h) (ok:s.o.Ok) (ha:I64 a) (hm:s.iV a=true->(s.dL a).qm a)=>zx pc L s a W h hW hc ok ha hm)
 have HC:=Lib.hid hc
 have HPB:=Lib.hid (fun j=>kZ (l.take j) s)
 have Wu:Hid (s.iF (l.take 0)=s/\nI s (l.take 0)=0):=Lib.hid ⟨rfl,rfl⟩
 clear hm hc hl ok
 simp only[ptr]at*
 go_enter Tryz.func148,Tryz.ntmps148
 go_wp2_with(go_at_call 167;refine Calls.mono hst ?_;rintro e w2 ⟨v2,h2,rfl,s2,u2⟩;have V8:=Lib.hid u2;obtain⟨VS,cap2,rfl,hcap2⟩:=s2.shape;have HS2:=Lib.hid s2;clear s2 u2 hst)
 go_loopw [7,18] (fun v i wr=> ∃j:Nat,j<=l.length/\i= .int .i64 j/\v= .int .i64 (nI s (l.take j))/\Hid (∃h',ah pc L (s.iF (l.take j)) h'/\aj h (h2++h') w wr)) (fun _ i _=>l.length-(intOf i).toNat)
 case atStart=>exact⟨0,by omega,rfl,by rw[Wu.out.2],Lib.hid ⟨h,by rw[Wu.out.1];exact HC.out,V8.out⟩⟩
 case round=>
  obtain⟨j,hj,rfl,rfl,HJ⟩:=hrel
  obtain⟨b0,b1⟩:=HPB.out j
  have hl4:(l.take j).length<=j:=List.length_take_le _ _
  by_cases hjl:j<l.length
  ·obtain⟨hk,ck,uk⟩:=HJ.out
   obtain⟨gb,off,rfl,hcj⟩:=aK.nH (kd:= .i64) HS2.out uk.au.left hjl
   have hgj:l[j]? =some (l.getD j 0):=by simp[List.getD,hjl]
   obtain⟨o1,o2,o3⟩:=HM.out j _ hgj
   have hnd:=Ry.out (s.iF (l.take j)) (l.getD j 0) wr hk uk.au.right ck o1 o2 o3
   obtain⟨nb0,nb1⟩:=kz (s.iF (l.take j)) (l.getD j 0)
   have et:l.take (j+1)=l.take j++[l.getD j 0]:=by
    rw[List.take_succ_eq_append_getElem hjl]
    simp[List.getD,hjl]
   have HT:Hid (s.iF (l.take (j+1))=(s.iF (l.take j)).fD (l.getD j 0)):=Lib.hid (by rw[et,Jr])
   have HN:Hid (nI s (l.take (j+1))=nI s (l.take j)+(s.iF (l.take j)).kK (l.getD j 0)):=Lib.hid (by rw[et,Bi])
   have Ah:=Lib.hid uk
   clear o1 o2 o3 et hgj ck uk HJ
   generalize s.iF (l.take j)=S at*
   generalize l.getD j 0=a at*
   generalize S.kK a=na at*
   generalize nI s (l.take j)=pn at*
   go_wp2_with(go_at_call 149;refine Calls.mono hnd ?_;rintro e w5 ⟨rfl,h5,c5,u5⟩;have MZ:=Lib.hid (aj.fM Ah.out u5);have M_:=Lib.hid c5;clear u5 c5 hnd)
   go_roundw
   case rel=>exact⟨j+1,by omega,by go_num,by first|(rw[HN.out];done)|(rw[HN.out];go_num),Lib.hid ⟨h5,by rw[HT.out];exact M_.out,MZ.out⟩⟩
   case measure=>simp[intOf];omega
  ·have e:l.take j=l:=List.take_of_length_le (by omega)
   rw[e]at HJ
   have HE:=Lib.hid e
   clear e
   rw[HE.out]at*
   go_wp2
   go_ret
   obtain⟨hk,ck,uk⟩:=HJ.out
   exact⟨rfl,hk,ck,uk.forget (List.sublist_append_right _ _)⟩
theorem Na(pc:Nat)(L:aX)(s:af)(a:Int)(w:World)(h:Hp)(hi:In w h)(hc:ah pc L s h)(ha:I64 a):
  Calls Tryz.prog 44 #[.pointer (some ⟨L.py,0,none⟩), .int .i64 a] w fun e w'=>e= .returned (.bool (s.y.dI a))/\aj h h w w':=by
 obtain⟨v,ha',hy,ho,hr,hg,ht,hw,rfl,ca,cy,co,cr,cg,ct,cw⟩:=hc
 exact Calls.mono (qX L.py s.y a w hy (In.fG (x:=[]) hi) cy ha) fun e w' hh=>⟨hh.1,aj.fG (x:=[]) (aj.refl hi) hh.2⟩
theorem E5(pc:Nat)(L:aX)(s:af)(w:World)(h:Hp)(hi:In w h)(hc:ah pc L s h):
  Calls Tryz.prog 168 #[.pointer (some ⟨L.pg,0,none⟩)] w fun e w'=> ∃v h',e= .returned v/\aK 3 1 v s.g.list.length (ints s.g.list) h'/\aj [] h' w w':=by
 obtain⟨v,ha',hy,ho,hr,hg,ht,hw,rfl,ca,cy,co,cr,cg,ct,cw⟩:=hc
 exact O4 L.pg s.g w hg (In.dh (x:=[]) hi) cg
theorem Px(pc:Nat)(L:aX)(s:af)(v:Value)(n:Nat)(l:List Int)(w:World)(h k:Hp)(hi:In w (k++h))(hc:ah pc L s h)(hv:aK 3 1 v n (ints l) k)(hx: ∀x∈l,I64 x)(hn:n<=1048576):
  Calls Tryz.prog 169 #[.pointer (some ⟨L.pg,0,none⟩),v] w fun e w'=>e= .returned (.tuple #[])/\ ∃h',ah pc L {s with g:=s.g.put l} h'/\aj (k++h) (k++h') w w':=by
 obtain⟨v0,ha',hy,ho,hr,hg,ht,hw,rfl,ca,cy,co,cr,cg,ct,cw⟩:=hc
 have p:=kS (l:=aI pc (bG L s v0) ha' hy ho hr hg ht hw) (i:=5) (x:=hg) rfl
 have p2:(k++(aI pc (bG L s v0) ha' hy ho hr hg ht hw).flatten).Perm ((k++hg)++((aI pc (bG L s v0) ha' hy ho hr hg ht hw).eraseIdx 5).flatten):=by
  rw[List.append_assoc]
  exact p.append_left k
 have hin:=hi.perm p2
 refine Calls.mono (O5 L.pg s.g v n l w hg k hin.left cg hv hx hn) fun e w' hh=> ?_
 obtain⟨he,hg',Wv,u⟩:=hh
 have u2:=u.beside hin
 have q:=kR (l:=aI pc (bG L s v0) ha' hy ho hr hg ht hw) (i:=5) (x:=hg) hg' rfl
 refine⟨he,_,⟨v0,ha',hy,ho,hr,hg',ht,hw,rfl,ca,cy,co,cr,Wv,ct,cw⟩,u2.perm p2.symm ?_⟩
 rw[List.append_assoc]
 exact(q.append_left k).symm
theorem Nb(pc:Nat)(L:aX)(s:af)(w:World)(h:Hp)(hi:In w h)(hc:ah pc L s h):
  Calls Tryz.prog 170 #[.pointer (some ⟨L.py,0,none⟩)] w fun e w'=>e= .returned (.bool s.y.qH)/\ ∃h',ah pc L {s with y:=s.y.drop} h'/\aj h h' w w':=by
 obtain⟨v,ha',hy,ho,hr,hg,ht,hw,rfl,ca,cy,co,cr,cg,ct,cw⟩:=hc
 refine Calls.mono (Mc L.py s.y w hy (In.fG (x:=[]) hi) cy) fun e w' hh=> ?_
 obtain⟨he,hy',Wh,u⟩:=hh
 exact⟨he,_,⟨v,ha',hy',ho,hr,hg,ht,hw,rfl,ca,Wh,co,cr,cg,ct,cw⟩,aj.fG (x:=[]) (aj.refl hi) u⟩
end Go.Proofs.YtibemcgdmembeaaGreat
namespace Go.Proofs.YtibemcgdmembeaaGreat
open Go.RowKit
def af.dN(s:af)(l:List Int):List Int:=(l.map s.now).filter fun t=> !s.y.dI t
def af.gK(s:af):af:={s with g:=s.g.put (s.dN s.g.list),y:=s.y.drop,aG:=false,copied:=0,done:={s.done with minors:=wrap64 (s.done.minors+1)}}
theorem mZ(s:af)(l:List Int):(s.dN l).length<=l.length:=by
 unfold af.dN
 have:=List.length_filter_le (fun t=> !s.y.dI t) (l.map s.now)
 simpa using this
theorem Dt(s:af)(l:List Int)(j:Nat)(h:j<l.length):s.dN (l.take (j+1))=s.dN (l.take j)++(if s.y.dI (s.now (l.getD j 0))=false then[s.now (l.getD j 0)]else[]):=by
 unfold af.dN
 rw[List.take_succ_eq_append_getElem h,List.map_append,List.filter_append]
 have e:l.getD j 0=l[j]:=by simp[List.getD,h]
 rw[e]
 cases hq:s.y.dI (s.now l[j])<;>simp[hq]
theorem E8(pc:Nat)(L:aX)(s:af)(w:World)(h:Hp)(hi:In w h)(hc:ah pc L s h):
  Calls Tryz.prog 151 #[ptr pc] w fun e w'=>e= .returned (.tuple #[])/\ ∃h',ah pc L s.gK h'/\aj h h' w w':=by
 have hall:=E5 pc L s w h hi hc
 have hgw:s.g.list.length<=1048576/\ ∀x∈s.g.list,I64 x:=by
  obtain⟨v,ha',hy,ho,hr,hg,ht,hw,rfl,ca,cy,co,cr,cg,ct,cw⟩:=hc
  obtain⟨v,hs,rfl,hS,w1,w2,w3,w4⟩:=cg
  exact⟨by omega,w4⟩
 obtain⟨hgl,hgi⟩:=hgw
 have HP:Hid (∀(S:af) W k h,In W (k++h)->ah pc L S h->W.cell? ⟨pc,14,none⟩=some (.pointer (some ⟨L.py,0,none⟩))/\W.cell? ⟨pc,17,none⟩=some (.pointer (some ⟨L.pg,0,none⟩))):=Lib.hid (fun S W k h hW hc=>⟨(ah.ptrs hc hW).2.1,(ah.ptrs hc hW).2.2.2.2.1⟩)
 have p5:=(HP.out s w [] h hi hc).2
 have Nc:=Lib.hid (fun a W h (hW:In W h) (hc:ah pc L s h) (ha:I64 a)=>oG pc L s a W h hW hc ha)
 have EY:=Lib.hid (fun a W h (hW:In W h) (hc:ah pc L s h) (ha:I64 a)=>Na pc L s a W h hW hc ha)
 have Yq:=Lib.hid (fun v n l W h k (hW:In W (k++h)) (hc:ah pc L s h) hv hx hn=>Px pc L s v n l W h k hW hc hv hx hn)
 have HDr:=Lib.hid (fun(S:af) W h (hW:In W h) (hc:ah pc L S h)=>Nb pc L S W h hW hc)
 have HI:=Lib.hid (fun x (hx:x∈s.g.list)=>hgi x hx)
 have HNI:=Lib.hid (fun x (hx:I64 x)=>s.xO hx)
 have HLI:Hid (∀x∈s.dN s.g.list,I64 x):=Lib.hid (by
  intro x hx
  unfold af.dN at hx
  obtain⟨y,hy,rfl⟩:=List.mem_map.1 (List.mem_filter.1 hx).1
  exact s.xO (hgi y hy))
 have HLl:=Lib.hid (mZ s s.g.list)
 have HGT:=Lib.hid (fun j (hj:j<s.g.list.length)=>Dt s s.g.list j hj)
 have HGl:=Lib.hid (fun j=>mZ s (s.g.list.take j))
 have H0:Hid (s.dN (s.g.list.take 0)=[]):=Lib.hid rfl
 have HC:=Lib.hid hc
 have Yr:=Lib.hid hi
 have Yt:Hid (∀h,ah pc L {s with g:=s.g.put (s.dN s.g.list),y:=s.y.drop,aG:=false,copied:=0,done:={s.done with minors:=wrap64 (s.done.minors+1)}} h->ah pc L s.gK h):=Lib.hid (fun _ hh=>hh)
 clear hc hi hgi
 generalize hl:s.g.list=l at*
 have HL:=Lib.hid hl
 clear hl
 simp only[ptr]at*
 go_enter Tryz.func151,Tryz.ntmps151
 go_wp2_with(go_at_call 168;refine Calls.mono hall ?_;rintro e w2 ⟨v2,h2,rfl,s2,u2⟩;have V8:=Lib.hid ((aj.refl (Yr.out)).more u2);obtain⟨VS,cap2,rfl,hcap2⟩:=s2.shape;have HS2:=Lib.hid s2;clear s2 u2 hall)
 go_loopw [2,12] (fun v i wr=> ∃(j:Nat) (vv:Value),j<=l.length/\i= .int .i64 j/\vv=v/\Hid (∃hX h',aK 3 1 vv (s.dN (l.take j)).length (ints (s.dN (l.take j))) hX/\ah pc L s h'/\aj h (hX++(h2++h')) w wr)) (fun _ i _=>l.length-(intOf i).toNat)
 case atStart=>exact⟨0,_,by omega,rfl,rfl,Lib.hid ⟨[],h,by rw[H0.out];exact aK.nil _ _,HC.out,V8.out⟩⟩
 case round=>
  obtain⟨j,vv,hj,rfl,rfl,HJ⟩:=hrel
  by_cases hjl:j<l.length
  ·obtain⟨hX,hk,S,ck,uk⟩:=HJ.out
   obtain⟨gb,off,rfl,hcj⟩:=aK.nH (kd:= .i64) HS2.out uk.au.right.left hjl
   have hai:I64 (l.getD j 0):=HI.out _ (by simp[List.getD,hjl])
   have hgt:=HGT.out j hjl
   have hgl2:=HGl.out j
   have hl4:(l.take j).length<=j:=List.length_take_le _ _
   have dQ:=Nc.out (l.getD j 0) wr hk uk.au.right.right ck hai
   have hni:=HNI.out _ hai
   have Ah:=Lib.hid uk
   have HS:=Lib.hid S
   obtain⟨ao',cap',rfl,hcap'⟩:=S.shape
   have Rz:=Lib.hid (fun W h (hW:In W h) (hc:ah pc L s h)=>EY.out _ W h hW hc hni)
   clear uk ck S HJ
   generalize l.getD j 0=a at*
   generalize s.now a=T at*
   cases hf:s.y.dI T
   ·rw[if_pos hf]at hgt
    rw[hf]at Rz
    have V9:Hid (∀v' hX',aK 3 1 v' ((s.dN (l.take j)).length+1) (ints (s.dN (l.take j))++[.int .i64 T]) hX'->aK 3 1 v' (s.dN (l.take (j+1))).length (ints (s.dN (l.take (j+1)))) hX'):=Lib.hid (by
     intro v' hX' h1
     rw[hgt]
     simpa[ints]using h1)
    generalize hm:(s.dN (l.take j)).length=m at*
    generalize hxs:ints (s.dN (l.take j))=xs at*
    clear hgt hf hm hxs
    go_wp2_with(first
     | (go_at_call 78;refine Calls.mono dQ ?_;rintro e w5 ⟨rfl,h5,c5,u5⟩;have MZ:=Lib.hid (aj.fM (k:=hX) Ah.out (aj.fM (k:=h2) (aj.refl Ah.out.au.right) u5));have M_:=Lib.hid c5;have p2:=(HP.out s w5 [] h5 u5.au c5).1;clear u5 c5 dQ)
     | (go_at_call 44;refine Calls.mono (Rz.out _ _ MZ.out.au.right.right M_.out) ?_;rintro e w6 ⟨rfl,u6⟩;have Nh:=Lib.hid ((aj.fM (k:=hX) MZ.out (aj.fM (k:=h2) (aj.refl MZ.out.au.right) u6)).skip' (.cells #[.int .i64 T] 3 (0,0)));have HN:=Lib.hid (kF (news:=[.int .i64 T]) (w:=w6.alloc (.cells #[.int .i64 T] 3 (0,0))) (b:=w6.heap.size) (T:=3) (fr:=(0,0)) (aV rfl));clear u6)
     | (at_builtin;refine cO rfl (.tmp 26) (.tmp 28) 41 rfl 3 1 8 (.int .i64 0) Tryz.underlying41 Tryz.kG rfl (by decide) (.slice ao' m cap') m xs hX rfl HS.out Nh.out.au.left ⟨w6.heap.size,0,none⟩ 1 1 [.int .i64 T] rfl HN.out rfl (by intro u hu;simp at hu;subst hu;rfl) (Or.inl (by decide)) (by unfold maxLen;omega) (by omega) ?_;intro v' w7 hX' hS' qG;have S7:=Lib.hid (V9.out _ _ hS');have U7:=Lib.hid (Nh.out.trans (qG.beside Nh.out.au));clear hS' qG))
    go_roundw
    case rel=>exact⟨j+1,_,by omega,by go_num,rfl,Lib.hid ⟨hX',h5,S7.out,M_.out,U7.out⟩⟩
    case measure=>simp[intOf];omega
   ·rw[if_neg (by rw[hf];decide),List.append_nil]at hgt
    rw[hf]at Rz
    have HG:=Lib.hid hgt
    clear hgt hf
    go_wp2_with(first
     | (go_at_call 78;refine Calls.mono dQ ?_;rintro e w5 ⟨rfl,h5,c5,u5⟩;have MZ:=Lib.hid (aj.fM (k:=hX) Ah.out (aj.fM (k:=h2) (aj.refl Ah.out.au.right) u5));have M_:=Lib.hid c5;have p2:=(HP.out s w5 [] h5 u5.au c5).1;clear u5 c5 dQ)
     | (go_at_call 44;refine Calls.mono (Rz.out _ _ MZ.out.au.right.right M_.out) ?_;rintro e w6 ⟨rfl,u6⟩;have Nh:=Lib.hid (aj.fM (k:=hX) MZ.out (aj.fM (k:=h2) (aj.refl MZ.out.au.right) u6));clear u6))
    go_roundw
    case rel=>exact⟨j+1,_,by omega,by go_num,rfl,Lib.hid ⟨hX,h5,by rw[HG.out];exact HS.out,M_.out,Nh.out⟩⟩
    case measure=>simp[intOf];omega
  ·obtain⟨hX,hk,S,ck,uk⟩:=HJ.out
   rw[List.take_of_length_le (by omega)]at S
   have Jt:aj h (hX++hk) w wr:=uk.forget (List.Sublist.append_left (List.sublist_append_right _ _) hX)
   have hlX:=HLl.out
   have p5:=(HP.out s wr hX hk Jt.au ck).2
   have hput:=Yq.out vv (s.dN l).length (s.dN l) wr hk hX Jt.au ck S HLI.out (by omega)
   have HU:=Lib.hid Jt
   clear uk Jt ck S HJ
   go_wp2_with(first
    | (go_at_call 169;refine Calls.mono hput ?_;rintro e w5 ⟨rfl,h5,c5,u5⟩;have MZ:=Lib.hid ((HU.out.trans u5).forget (List.sublist_append_right _ _));have M_:=Lib.hid c5;have p2:=(HP.out _ w5 [] h5 MZ.out.au c5).1;clear u5 c5 hput)
    | (go_at_call 170;refine Calls.mono (HDr.out _ _ _ MZ.out.au M_.out) ?_;rintro e w6 ⟨rfl,h6,⟨v6,ha6,hy6,ho6,hr6,hg6,Ye,hw6,rfl,Wq,cy6,co6,cr6,cg6,Yf,cw6⟩,u6⟩;have Nh:=Lib.hid (MZ.out.trans u6);
        have k21:=bU (In.core (x:=[]) Nh.out.au) 21;have k23:=bU (In.core (x:=[]) Nh.out.au) 23;have k29:=bU (In.core (x:=[]) Nh.out.au) 29;
        have y21:=aZ (In.core (x:=[]) Nh.out.au) 21;have y23:=aZ (In.core (x:=[]) Nh.out.au) 23;have y29:=aZ (In.core (x:=[]) Nh.out.au) 29;
        simp only[gm,List.getElem?_toArray,List.getElem?_cons_succ,List.getElem?_cons_zero]at k21 k23 k29;clear u6))
   go_end0
   have U9:=aj.GL (x:=[]) (aj.iM (x:=[]) (aj.zy (x:=[]) Nh.out false) 0) (wrap64 (s.done.minors+1))
   exact⟨rfl,_,Yt.out _ ⟨v6,ha6,hy6,ho6,hr6,hg6,Ye,hw6,rfl,Wq,cy6,co6,cr6,cg6,Yf,cw6⟩,U9⟩
end Go.Proofs.YtibemcgdmembeaaGreat
namespace Go.Proofs.YtibemcgdmembeaaGreat
open Go.RowKit
def af.fV(s:af):af:={s with r:={s.r with tb:=s.r.tb.rest}}
def af.fB(s:af)(n:Nat):af:={s with r:={s.r with tb:=s.r.tb.rest,tc:=s.r.tc.KL n}}
def af.bF(s:af)(n:Nat):List Int:=s.o.starts (s.r.tc.lI n) (s.r.tc.lJ n)
def af.t_(s:af):Int:=(ag s.ws s.scan).words
def af.pR(s:af):Bool:=decide (s.scan<s.y.cf+s.y.cu)
def af.vY(s:af):af:={s.through s.scan with scan:=wrap64 (s.scan+s.t_)}
inductive KT where
 |none|row|buf (x:Int)|card (n:Nat)|scan|finish
def af.which(s:af):KT:=
 if s.aG=false then .none
 else if 0<s.row.length then .row
 else match s.r.tb.list with
  |x::_=> .buf x
  |[]=>match s.r.tc.first with
   |some n=> .card n
   |none=>if s.pR=true then .scan else .finish
def af.stepOf(s:af):KT->af
 | .none=>s
 | .row=>s.rF
 | .buf x=>s.fV.fD x
 | .card n=>(s.fB n).iF (s.bF n)
 | .scan=>s.vY
 | .finish=>s.gK
def af.fZ(s:af):KT->Int
 | .none=>0
 | .row=>s.yO+1
 | .buf x=>s.fV.kK x+1
 | .card n=>nI (s.fB n) (s.bF n)+1
 | .scan=>s.t_
 | .finish=>2
def og:KT->Bool
 | .none=>false
 | .finish=>false
 |_=>true
def af.eG(s:af):af:=s.stepOf s.which
def af.oO(s:af):Int:=s.fZ s.which
def af.qf(s:af):Bool:=og s.which
def af.E_(s:af):Prop:=s.o.Ok/\s.row.length<=1000000/\ (match s.which with
 | .none=>True
 | .row=>I64 s.h_/\ ((s.o.aH s.h_).isSome=true->s.mY.qm s.h_)
 | .buf x=>I64 x/\ (s.fV.iV x=true->(s.fV.dL x).qm x)
 | .card n=>(s.fB n).Bj (s.bF n)
 | .scan=>I64 s.scan/\s.qm s.scan
 | .finish=>True)
theorem Du(pc:Nat)(L:aX)(s:af)(w:World)(h:Hp)(hi:In w h)(hc:ah pc L s h)(x:Int)(xs:List Int)(ht0:s.r.tb.list=x::xs):
  Calls Tryz.prog 147 #[.pointer (some ⟨L.pr,0,none⟩)] w fun e w'=>e= .returned (.tuple #[.int .i64 x, .int .i64 (wrap64 (x+1)), .bool false, .bool true])/\ ∃h',ah pc L s.fV h'/\aj h h' w w':=by
 obtain⟨v,ha',hy,ho,hr,hg,ht,hw,rfl,ca,cy,co,cr,cg,ct,cw⟩:=hc
 refine Calls.mono (ES L.pr s.r w hr (In.rem (x:=[]) hi) cr x xs ht0) fun e w' hh=> ?_
 obtain⟨he,hr',Rx,u⟩:=hh
 exact⟨he,_,⟨v,ha',hy,ho,hr',hg,ht,hw,rfl,ca,cy,co,Rx,cg,ct,cw⟩,aj.rem (x:=[]) (aj.refl hi) u⟩
theorem Bl(pc:Nat)(L:aX)(s:af)(w:World)(h:Hp)(hi:In w h)(hc:ah pc L s h)(ht0:s.r.tb.list=[])(hc0:s.r.tc.first=none):
  Calls Tryz.prog 147 #[.pointer (some ⟨L.pr,0,none⟩)] w fun e w'=>e= .returned (.tuple #[.int .i64 0, .int .i64 0, .bool false, .bool false])/\ ∃h',ah pc L s.fV h'/\aj h h' w w':=by
 obtain⟨v,ha',hy,ho,hr,hg,ht,hw,rfl,ca,cy,co,cr,cg,ct,cw⟩:=hc
 refine Calls.mono (Di L.pr s.r w hr (In.rem (x:=[]) hi) cr ht0 hc0) fun e w' hh=> ?_
 obtain⟨he,hr',Rx,u⟩:=hh
 exact⟨he,_,⟨v,ha',hy,ho,hr',hg,ht,hw,rfl,ca,cy,co,Rx,cg,ct,cw⟩,aj.rem (x:=[]) (aj.refl hi) u⟩
theorem Bo(pc:Nat)(L:aX)(s:af)(w:World)(h:Hp)(hi:In w h)(hc:ah pc L s h)(n:Nat)(ht0:s.r.tb.list=[])(hc0:s.r.tc.first=some n):
  Calls Tryz.prog 147 #[.pointer (some ⟨L.pr,0,none⟩)] w fun e w'=>e= .returned (.tuple #[.int .i64 (s.r.tc.lI n), .int .i64 (s.r.tc.lJ n), .bool true, .bool true])/\ ∃h',ah pc L (s.fB n) h'/\aj h h' w w':=by
 obtain⟨v,ha',hy,ho,hr,hg,ht,hw,rfl,ca,cy,co,cr,cg,ct,cw⟩:=hc
 refine Calls.mono (Dj L.pr s.r w hr (In.rem (x:=[]) hi) cr n ht0 hc0) fun e w' hh=> ?_
 obtain⟨he,hr',Rx,u⟩:=hh
 exact⟨he,_,⟨v,ha',hy,ho,hr',hg,ht,hw,rfl,ca,cy,co,Rx,cg,ct,cw⟩,aj.rem (x:=[]) (aj.refl hi) u⟩
theorem Ju{s:af}(h:s.r.tb.list=[]):s.fV=s:=by
 unfold af.fV jL.rest
 rw[h]
 rcases s with⟨C,ws,y,o,⟨r1,r2,r3,r4,r5,r6,⟨m,l⟩,r8⟩,g,t,p1,p2,p3,p4,p5,p6,p7,p8⟩
 simp only at h
 subst h
 rfl
theorem wR(pc:Nat)(L:aX)(s:af)(w:World)(h:Hp)(hi:In w h)(hc:ah pc L s h):
  Calls Tryz.prog 119 #[.pointer (some ⟨L.py,0,none⟩)] w fun e w'=>e= .returned (.tuple #[.int .i64 s.y.cf, .int .i64 s.y.of])/\aj h h w w':=by
 obtain⟨v,ha',hy,ho,hr,hg,ht,hw,rfl,ca,cy,co,cr,cg,ct,cw⟩:=hc
 exact Calls.mono (I7 L.py s.y w hy (In.fG (x:=[]) hi) cy) fun e w' hh=>⟨hh.1,aj.fG (x:=[]) (aj.refl hi) hh.2⟩
theorem wS(pc:Nat)(L:aX)(s:af)(w:World)(h:Hp)(hi:In w h)(hc:ah pc L s h):
  Calls Tryz.prog 120 #[.pointer (some ⟨L.py,0,none⟩)] w fun e w'=>e= .returned (.int .i64 s.y.cu)/\aj h h w w':=by
 obtain⟨v,ha',hy,ho,hr,hg,ht,hw,rfl,ca,cy,co,cr,cg,ct,cw⟩:=hc
 exact Calls.mono (LZ L.py s.y w hy (In.fG (x:=[]) hi) cy) fun e w' hh=>⟨hh.1,aj.fG (x:=[]) (aj.refl hi) hh.2⟩
theorem ah.vw{pc:Nat}{L:aX}{s:af}{h:Hp}{w:World}(hc:ah pc L s h)(hi:In w h):
  w.cell? ⟨pc,21,none⟩=some (.bool s.aG)/\w.cell? ⟨pc,22,none⟩=some (.int .i64 s.scan)/\w.cell? ⟨pc,14,none⟩=some (ptr L.py)/\w.cell? ⟨pc,16,none⟩=some (ptr L.pr)/\ (∃ao cap,w.cell? ⟨pc,25,none⟩=some (.slice ao s.row.length cap)):=by
 obtain⟨v,ha',hy,ho,hr,hg,ht,hw,rfl,ca,cy,co,cr,cg,ct,cw⟩:=hc
 obtain⟨ao,cap,rfl,_⟩:=cw.shape
 exact⟨cell_of (In.core (x:=[]) hi) 21,cell_of (In.core (x:=[]) hi) 22,cell_of (In.core (x:=[]) hi) 14,cell_of (In.core (x:=[]) hi) 16,ao,cap,cell_of (In.core (x:=[]) hi) 25⟩
theorem ah.Fa{pc:Nat}{L:aX}{s:af}{h:Hp}(hc:ah pc L s h):s.y.WF:=by
 obtain⟨v,ha',hy,ho,hr,hg,ht,hw,rfl,ca,cy,co,cr,cg,ct,cw⟩:=hc
 exact cy.2
theorem qo(s:af):0<=s.yO/\s.yO<=66:=by
 unfold af.yO
 split
 ·obtain⟨g1,g2,_⟩:=dU (oU s.ws s.h_)
  have:(ag s.ws s.h_).words=(Ai (oU s.ws s.h_)).size+2:=rfl
  omega
 ·omega
theorem sQ(s:af):2<=s.t_/\s.t_<=66:=by
 obtain⟨g1,g2,_⟩:=dU (oU s.ws s.scan)
 have:s.t_=(Ai (oU s.ws s.scan)).size+2:=rfl
 omega
theorem xU{pc:Nat}{L:aX}{s:af}{h h0:Hp}{w w0:World}(hc:ah pc L s h)(u:aj h0 h w0 w)(x:Int): ∃h',ah pc L {s with scan:=x} h'/\aj h0 h' w0 (w.setCell ⟨pc,22,none⟩ (.int .i64 x)):=by
 obtain⟨v,ha',hy,ho,hr,hg,ht,hw,rfl,ca,cy,co,cr,cg,ct,cw⟩:=hc
 exact⟨_,⟨v,ha',hy,ho,hr,hg,ht,hw,rfl,ca,cy,co,cr,cg,ct,cw⟩,aj.Nj (x:=[]) u x⟩
theorem Nk(s:af)(i:Int):(s.note i).scan=s.scan:=by
 unfold af.note
 split<;>rfl
theorem Jv(s:af)(a:Int):(s.moved a).scan=s.scan:=by
 unfold af.moved af.placed
 split<;>rfl
theorem Ea(s:af)(a:Int):(s.move a).scan=s.scan:=by
 unfold af.move
 split
 ·rfl
 ·split
  ·exact Jv ..
  ·rfl
theorem Bq(s:af)(a:Int): ∀k,(s.jb a k).scan=s.scan
 |0=>rfl
 |k+1=>by
  have ih:=Bq s a k
  show((s.jb a k).dV a k).scan=_
  unfold af.dV
  split
  ·rw[Ea,ih]
  ·show((s.jb a k).move _).scan=_
   rw[Ea,ih]
theorem Fb(s:af)(a:Int):(s.through a).scan=s.scan:=by
 unfold af.through
 split
 ·rw[Nk,Bq]
 ·rw[Bq]
theorem Jw(pc:Nat)(L:aX)(s:af)(w:World)(h:Hp)(hi:In w h)(hc:ah pc L s h)(hm:s.E_):
  Calls Tryz.prog 115 #[ptr pc] w fun e w'=>e= .returned (.tuple #[.int .i64 s.oO, .bool s.qf])/\ ∃h',ah pc L s.eG h'/\aj h h' w w':=by
 obtain⟨ok,rb,hm⟩:=hm
 obtain⟨f1,f2,f3,f4,ao,cap,f5⟩:=hc.vw hi
 have hwf:=hc.Fa
 have HC:=Lib.hid hc
 have HI:=Lib.hid hi
 cases hmv:s.aG
 ·have e:s.which= .none:=by simp[af.which,hmv]
  have e1:Hid (s.oO=0/\s.qf=false/\s.eG=s):=Lib.hid (by simp[af.oO,af.qf,af.eG,e,af.fZ,og,af.stepOf])
  rw[e1.out.1,e1.out.2.1]
  rw[hmv]at f1
  have HU:=Lib.hid (aj.refl hi)
  clear hm hmv e hc hi
  simp only[ptr]at*
  go_enter Tryz.func115,Tryz.ntmps115
  go_wp2
  go_ret2
  exact⟨rfl,h,by rw[e1.out.2.2];exact HC.out,HU.out⟩
 rw[hmv]at f1
 by_cases hr:0<s.row.length
 ·have e:s.which= .row:=by simp[af.which,hmv,hr]
  rw[e]at hm
  obtain⟨m1,m2⟩:=hm
  have e1:Hid (s.oO=s.yO+1/\s.qf=true/\s.eG=s.rF):=Lib.hid (by simp[af.oO,af.qf,af.eG,e,af.fZ,og,af.stepOf])
  rw[e1.out.1,e1.out.2.1]
  obtain⟨b0,b1⟩:=qo s
  have hrow:=MX pc L s w h hi hc ok hr rb m1 m2
  clear hmv e hc hi m1 m2
  generalize s.yO=rn at*
  simp only[ptr]at*
  go_enter Tryz.func115,Tryz.ntmps115
  go_wp2_with(go_at_call 146;refine Calls.mono hrow ?_;rintro e w2 ⟨rfl,h2,c2,u2⟩;have C2:=Lib.hid c2;have U2:=Lib.hid u2;clear c2 u2 hrow)
  go_ret2
  exact⟨rfl,h2,by rw[e1.out.2.2];exact C2.out,U2.out⟩
 have hr0:s.row.length=0:=by omega
 rw[hr0]at f5
 have hrd: ¬(0<s.row.length):=hr
 cases htb:s.r.tb.list with
 |cons x xs=>
  have e:s.which= .buf x:=by simp[af.which,hmv,hrd,htb]
  rw[e]at hm
  obtain⟨m1,m2⟩:=hm
  have e1:Hid (s.oO=s.fV.kK x+1/\s.qf=true/\s.eG=s.fV.fD x):=Lib.hid (by simp[af.oO,af.qf,af.eG,e,af.fZ,og,af.stepOf])
  rw[e1.out.1,e1.out.2.1]
  obtain⟨b0,b1⟩:=kz s.fV x
  have hnx:=Du pc L s w h hi hc x xs htb
  have Ry:=Lib.hid (fun W h (hW:In W h) (hc:ah pc L s.fV h)=>zx pc L s.fV x W h hW hc ok m1 m2)
  clear hmv e hc hi m1 m2 hr hr0 hrd htb
  generalize s.fV.kK x=nn at*
  simp only[ptr]at*
  go_enter Tryz.func115,Tryz.ntmps115
  go_wp2_with(first
   | (go_at_call 147;refine Calls.mono hnx ?_;rintro e w2 ⟨rfl,h2,c2,u2⟩;have C2:=Lib.hid c2;have U2:=Lib.hid u2;clear c2 u2 hnx)
   | (go_at_call 149;refine Calls.mono (Ry.out _ _ U2.out.au C2.out) ?_;rintro e w3 ⟨rfl,h3,c3,u3⟩;have C3:=Lib.hid c3;have U3:=Lib.hid (U2.out.trans u3);clear c3 u3))
  go_ret2
  exact⟨rfl,h3,by rw[e1.out.2.2];exact C3.out,U3.out⟩
 |nil=>
  cases hfc:s.r.tc.first with
  |some n=>
   have e:s.which= .card n:=by simp[af.which,hmv,hrd,htb,hfc]
   rw[e]at hm
   simp only at hm
   have e1:Hid (s.oO=nI (s.fB n) (s.bF n)+1/\s.qf=true/\s.eG=(s.fB n).iF (s.bF n)):=Lib.hid (by simp[af.oO,af.qf,af.eG,e,af.fZ,og,af.stepOf])
   rw[e1.out.1,e1.out.2.1]
   obtain⟨b0,b1⟩:=kZ (s.bF n) (s.fB n)
   have hcl:(s.bF n).length<=16384:=by
    have h1:=jO ok (s.r.tc.lI n) (s.r.tc.lJ n) s.o.pages.length
    obtain⟨v,ha',hy,ho,hr,hg,ht,hw,rfl,ca,cy,co,cr,cg,ct,cw⟩:=hc
    obtain⟨b,rows,m⟩:=co.rows
    obtain⟨a1,a2,a3,a4,a5⟩:=m.2.2.2
    show(s.o.bJ _ _ s.o.pages.length).length<=_
    omega
   have hnx:=Bo pc L s w h hi hc n htb hfc
   have hpt:=fun W h (hW:In W h) (hc:ah pc L (s.fB n) h)=>Js pc L (s.fB n) (s.r.tc.lI n) (s.r.tc.lJ n) W h hW hc ok hm
   have hcs:(s.fB n).o.starts (s.r.tc.lI n) (s.r.tc.lJ n)=s.bF n:=rfl
   rw[hcs]at hpt
   have HPt:=Lib.hid hpt
   clear hmv e hc hi hr hr0 hrd htb hm hpt hcs hfc
   generalize nI (s.fB n) (s.bF n)=nn at*
   generalize (s.bF n).length=cl at*
   simp only[ptr]at*
   go_enter Tryz.func115,Tryz.ntmps115
   go_wp2_with(first
    | (go_at_call 147;refine Calls.mono hnx ?_;rintro e w2 ⟨rfl,h2,c2,u2⟩;have C2:=Lib.hid c2;have U2:=Lib.hid u2;clear c2 u2 hnx)
    | (go_at_call 148;refine Calls.mono (HPt.out _ _ U2.out.au C2.out) ?_;rintro e w3 ⟨rfl,h3,c3,u3⟩;have C3:=Lib.hid c3;have U3:=Lib.hid (U2.out.trans u3);clear c3 u3))
   go_ret2
   exact⟨rfl,h3,by rw[e1.out.2.2];exact C3.out,U3.out⟩
  |none=>
   have hnx:=Bl pc L s w h hi hc htb hfc
   rw[Ju htb]at hnx
   have Va:=Lib.hid (fun W h (hW:In W h) (hc:ah pc L s h)=>wR pc L s W h hW hc)
   have TM:=Lib.hid (fun W h (hW:In W h) (hc:ah pc L s h)=>wS pc L s W h hW hc)
   have TN:=Lib.hid (fun W h (hW:In W h) (hc:ah pc L s h)=>hc.vw hW)
   obtain⟨y1,y2,y3,y4,y5,y6,y7,y8⟩:=aJ.WF.bounds hwf
   have wcu:IntKind.i64.wrap (s.y.cf+s.y.cu)=s.y.cf+s.y.cu:=IntWalk.i64_in _ (by omega)
   have hso:s.pR=decide (s.scan<s.y.cf+s.y.cu):=rfl
   cases hsc:s.pR
   ·have e:s.which= .finish:=by simp[af.which,hmv,hrd,htb,hfc,hsc]
    have e1:Hid (s.oO=2/\s.qf=false/\s.eG=s.gK):=Lib.hid (by simp[af.oO,af.qf,af.eG,e,af.fZ,og,af.stepOf])
    rw[e1.out.1,e1.out.2.1]
    have hd:decide (s.scan<s.y.cf+s.y.cu)=false:=by rw[<-hso,hsc]
    have HFi:=Lib.hid (fun W h (hW:In W h) (hc:ah pc L s h)=>E8 pc L s W h hW hc)
    clear hmv e hc hi hr hr0 hrd htb hm hfc hsc hso hwf y1 y2 y3 y4 y5 y6 y7 y8 ok rb
    simp only[ptr]at*
    go_enter Tryz.func115,Tryz.ntmps115
    go_wp2_with(first
     | (go_at_call 147;refine Calls.mono hnx ?_;rintro e w2 ⟨rfl,h2,c2,u2⟩;have C2:=Lib.hid c2;have U2:=Lib.hid u2;have k14:=(TN.out _ _ u2.au c2).2.2.1;try simp only[ptr]at k14;clear c2 u2 hnx)
     | (go_at_call 119;refine Calls.mono (Va.out _ _ U2.out.au C2.out) ?_;rintro e w3 ⟨rfl,u3⟩;have U3:=Lib.hid (U2.out.trans u3);clear u3))
    obtain⟨_,q2,q3,_,_⟩:=TN.out _ _ U3.out.drew'.au C2.out
    have hS0:=And.intro q2 q3
    try simp only[ptr]at hS0
    clear q2 q3 f1 f2 f3 f4 f5 k14
    go_region_held3 (fun w'=>w'.cell? ⟨pc,22,none⟩=some (.int .i64 s.scan)/\w'.cell? ⟨pc,14,none⟩=some (.pointer (some ⟨L.py,0,none⟩)))
     (first|with_reducible exact hS0|with_reducible exact wO|go_keep)
     (first|(go_at_call 120;refine Calls.mono (TM.out _ _ U3.out.drew'.au C2.out) ?_;rintro e w9 ⟨rfl,u9⟩;have U9:=Lib.hid (U3.out.drew'.trans u9);have wO:=And.intro (TN.out _ _ U9.out.au C2.out).2.1 (TN.out _ _ U9.out.au C2.out).2.2.1;try simp only[ptr]at wO;clear u9))
    go_wp2_with(go_at_call 151;refine Calls.mono (HFi.out _ _ U9.out.au C2.out) ?_;rintro e w10 ⟨rfl,h10,c10,u10⟩;have xu:=Lib.hid (U9.out.trans u10);have C10:=Lib.hid c10;clear u10 c10)
    go_ret2
    exact⟨rfl,h10,by rw[e1.out.2.2];exact C10.out,xu.out⟩
   ·have e:s.which= .scan:=by simp[af.which,hmv,hrd,htb,hfc,hsc]
    rw[e]at hm
    obtain⟨m1,m2⟩:=hm
    have e1:Hid (s.oO=s.t_/\s.qf=true/\s.eG=s.vY):=Lib.hid (by simp[af.oO,af.qf,af.eG,e,af.fZ,og,af.stepOf])
    rw[e1.out.1,e1.out.2.1]
    have hd:decide (s.scan<s.y.cf+s.y.cu)=true:=by rw[<-hso,hsc]
    have hth:=fun W h (hW:In W h) (hc:ah pc L s h)=>qM pc L s s.scan W h hW hc m1 m2
    have hsn:(ag s.ws s.scan).words=s.t_:=rfl
    rw[hsn]at hth
    have Jq:=Lib.hid hth
    have HS2:=Lib.hid (Fb s s.scan)
    have hst:s.vY={s.through s.scan with scan:=wrap64 (s.scan+s.t_)}:=rfl
    have HST:=Lib.hid hst
    have HFT:=Lib.hid (fun W h (hW:In W h) (hc:ah pc L (s.through s.scan) h)=>hc.vw hW)
    have HFz:=Lib.hid (fun W h (hW:In W h) (hc:ah pc L (s.through s.scan) h)=>(show W.frozen? ⟨pc,22,none⟩=false by
     obtain⟨v,ha',hy,ho,hr,hg,ht,hw,rfl,ca,cy,co,cr,cg,ct,cw⟩:=hc
     exact aZ (In.core (x:=[]) hW) 22))
    clear hmv e hc hi hr hr0 hrd htb hfc hsc hso hwf y1 y2 y3 y4 y5 y6 y7 y8 ok rb m1 m2 hth hsn hst
    generalize s.t_=sn at*
    generalize hT:s.through s.scan=T at*
    clear hT
    generalize hsc:s.scan=sc at*
    clear hsc
    simp only[ptr]at*
    go_enter Tryz.func115,Tryz.ntmps115
    go_wp2_with(first
     | (go_at_call 147;refine Calls.mono hnx ?_;rintro e w2 ⟨rfl,h2,c2,u2⟩;have C2:=Lib.hid c2;have U2:=Lib.hid u2;have k14:=(TN.out _ _ u2.au c2).2.2.1;try simp only[ptr]at k14;clear c2 u2 hnx)
     | (go_at_call 119;refine Calls.mono (Va.out _ _ U2.out.au C2.out) ?_;rintro e w3 ⟨rfl,u3⟩;have U3:=Lib.hid (U2.out.trans u3);clear u3))
    obtain⟨_,q2,q3,_,_⟩:=TN.out _ _ U3.out.drew'.au C2.out
    have hS0:=And.intro q2 q3
    try simp only[ptr]at hS0
    clear q2 q3 f1 f2 f3 f4 f5 k14
    go_region_held3 (fun w'=>w'.cell? ⟨pc,22,none⟩=some (.int .i64 sc)/\w'.cell? ⟨pc,14,none⟩=some (.pointer (some ⟨L.py,0,none⟩)))
     (first|with_reducible exact hS0|with_reducible exact wO|go_keep)
     (first|(go_at_call 120;refine Calls.mono (TM.out _ _ U3.out.drew'.au C2.out) ?_;rintro e w9 ⟨rfl,u9⟩;have U9:=Lib.hid (U3.out.drew'.trans u9);have wO:=And.intro (TN.out _ _ U9.out.au C2.out).2.1 (TN.out _ _ U9.out.au C2.out).2.2.1;try simp only[ptr]at wO;clear u9))
    obtain⟨s9a,s9b⟩:=wO
    go_wp2_with(go_at_call 150;refine Calls.mono (Jq.out _ _ U9.out.au C2.out) ?_;rintro e w10 ⟨rfl,h10,c10,u10⟩;have xu:=Lib.hid (U9.out.trans u10);have k22:=(HFT.out _ _ xu.out.au c10).2.1;rw[HS2.out]at k22;have z22:=HFz.out _ _ xu.out.au c10;have C10:=Lib.hid c10;clear u10 c10 s9a s9b)
    go_ret2
    obtain⟨h11,c11,u11⟩:=xU C10.out xu.out (wrap64 (sc+sn))
    exact⟨rfl,h11,by rw[e1.out.2.2,HST.out];exact c11,u11⟩
end Go.Proofs.YtibemcgdmembeaaGreat
namespace Go.Proofs.YtibemcgdmembeaaGreat
open Go.RowKit
def af.vO:Nat->af->Int->Int->Option (af×Int)
 |0,_,_,_=>none
 |k+1,s,d,work=>if d<work then(if s.qf=true then s.eG.vO k (d+s.oO) work else some (s.eG,d+s.oO))else some (s,d)
def af.GM:Nat->af->Int->Int->Prop
 |0,_,_,_=>True
 |k+1,s,d,work=>d<work->s.E_/\d+s.oO<=1000000000000/\ (s.qf=true->s.eG.GM k (d+s.oO) work)
theorem GN(s:af)(h:s.qf=true):1<=s.oO:=by
 unfold af.qf at h
 unfold af.oO
 cases hq:s.which with
 |none=>rw[hq]at h;cases h
 |finish=>rw[hq]at h;cases h
 |row=>have:=qo s;simp only[af.fZ];omega
 |buf x=>have:=kz s.fV x;simp only[af.fZ];omega
 |card n=>have:=kZ (s.bF n) (s.fB n);simp only[af.fZ];omega
 |scan=>have:=sQ s;simp only[af.fZ];omega
theorem GR(s:af):0<=s.oO:=by
 unfold af.oO
 cases hq:s.which with
 |none=>simp[af.fZ]
 |finish=>simp[af.fZ]
 |row=>have:=qo s;simp only[af.fZ];omega
 |buf x=>have:=kz s.fV x;simp only[af.fZ];omega
 |card n=>have:=kZ (s.bF n) (s.fB n);simp only[af.fZ];omega
 |scan=>have:=sQ s;simp only[af.fZ];omega
theorem Nl(pc:Nat)(L:aX)(s:af)(work:Int)(w:World)(h:Hp)(hi:In w h)(hc:ah pc L s h)(k:Nat)(s':af)(d':Int)(hr:s.vO k 0 work=some (s',d'))(hm:s.GM k 0 work):
  Calls Tryz.prog 104 #[ptr pc, .int .i64 work] w fun e w'=>e= .returned (.int .i64 d')/\ ∃h',ah pc L s' h'/\aj h h' w w':=by
 have TP:=Lib.hid (fun s W h (hW:In W h) (hc:ah pc L s h) (m:s.E_)=>Jw pc L s W h hW hc m)
 have H0:Hid (∃k S h',S.vO k 0 work=some (s',d')/\S.GM k 0 work/\ah pc L S h'/\aj h h' w w):=Lib.hid ⟨k,s,h,hr,hm,hc,aj.refl hi⟩
 clear hr hm hc hi k
 simp only[ptr]at*
 go_enter Tryz.func104,Tryz.ntmps104
 go_wp2
 go_loopw [5] (fun v wr=> ∃d:Int,0<=d/\d<=1000000000000/\v= .int .i64 d/\Hid (∃k S h',S.vO k d work=some (s',d')/\S.GM k d work/\ah pc L S h'/\aj h h' w wr)) (fun v _=>(work-intOf v).toNat)
 case atStart=>exact⟨0,by omega,by omega,rfl,H0⟩
 case round=>
  obtain⟨d,hd0,hd1,rfl,HW⟩:=hrel
  obtain⟨k,S,hk,hr,hm,ck,uk⟩:=HW.out
  cases k with
  |zero=>cases hr
  |succ k=>
   by_cases hlt:d<work
   ·simp only[af.vO,if_pos hlt]at hr
    obtain⟨m1,m2,m3⟩:=hm hlt
    have hst:=TP.out S wr hk uk.au ck m1
    have hnn:=GR S
    have hnp:=GN S
    have HU:=Lib.hid uk
    cases hb:S.qf
    ·rw[hb]at hst
     rw[hb,if_neg (by decide)]at hr
     simp only[Option.some.injEq,Prod.mk.injEq]at hr
     obtain⟨r1,r2⟩:=hr
     have R1:=Lib.hid r1
     have R2:=Lib.hid r2
     clear hb m1 m3 hnp ck uk HW r1 r2 hm
     generalize S.oO=n at*
     go_wp2_with(go_at_call 115;refine Calls.mono hst ?_;rintro e w2 ⟨rfl,h2,c2,u2⟩;have C2:=Lib.hid c2;have U2:=Lib.hid (HU.out.trans u2);clear c2 u2 hst)
     go_ret
     rw[<-R2.out,<-R1.out]
     exact⟨rfl,h2,C2.out,U2.out⟩
    ·rw[hb]at hst
     rw[hb,if_pos rfl]at hr
     have hp:=hnp hb
     have M3:=Lib.hid (m3 hb)
     have HR:=Lib.hid hr
     clear hb m1 m3 hnp ck uk HW hr hm
     generalize S.oO=n at*
     generalize S.eG=T at*
     go_wp2_with(go_at_call 115;refine Calls.mono hst ?_;rintro e w2 ⟨rfl,h2,c2,u2⟩;have C2:=Lib.hid c2;have U2:=Lib.hid (HU.out.trans u2);clear c2 u2 hst)
     go_roundw
     case rel=>exact⟨d+n,by omega,by omega,rfl,Lib.hid ⟨k,T,h2,HR.out,M3.out,C2.out,U2.out⟩⟩
     case measure=>simp[intOf];omega
   ·simp only[af.vO,if_neg hlt,Option.some.injEq,Prod.mk.injEq]at hr
    obtain⟨r1,r2⟩:=hr
    have R1:=Lib.hid r1
    have R2:=Lib.hid r2
    have C:=Lib.hid ck
    have U:=Lib.hid uk
    clear r1 r2 ck uk HW hm
    go_wp2
    go_ret
    rw[<-R2.out,<-R1.out]
    exact⟨rfl,hk,C.out,U.out⟩
def af.begun(s:af):af:={s with y:=s.y.flip,r:=if s.r.left=0 then s.r.flip else s.r,aG:=true,copied:=0,row:=[],scan:=s.y.flip.cf}
def af.Vb(s:af)(k:Nat)(a:Int):af:={s.move a with t:=bP (s.move a).t k (s.dA a)}
def af.handles(s:af)(l:List Int):Nat->af
 |0=>s
 |k+1=>(s.handles l k).Vb k (l.getD k 0)
def af.jh(s:af):Bool:= !s.aG&&s.y.oM
def af.eY(s:af):af:=if s.jh=true then s.begun.handles s.t s.t.length else s
def af.Py(s:af):Prop:=s.jh=true-> ∀k,k<s.t.length->(s.begun.handles s.t k).EZ (s.t.getD k 0)
theorem Np(pc:Nat)(L:aX)(s:af)(w:World)(h:Hp)(hi:In w h)(hc:ah pc L s h):
  Calls Tryz.prog 117 #[.pointer (some ⟨L.py,0,none⟩)] w fun e w'=>e= .returned (.bool s.y.oM)/\ ∃h',ah pc L {s with y:=s.y.flip} h'/\aj h h' w w':=by
 obtain⟨v,ha',hy,ho,hr,hg,ht,hw,rfl,ca,cy,co,cr,cg,ct,cw⟩:=hc
 refine Calls.mono (L_ L.py s.y w hy (In.fG (x:=[]) hi) cy) fun e w' hh=> ?_
 obtain⟨he,hy',Wh,u⟩:=hh
 exact⟨he,_,⟨v,ha',hy',ho,hr,hg,ht,hw,rfl,ca,Wh,co,cr,cg,ct,cw⟩,aj.fG (x:=[]) (aj.refl hi) u⟩
theorem Fe(pc:Nat)(L:aX)(s:af)(w:World)(h:Hp)(hi:In w h)(hc:ah pc L s h):
  Calls Tryz.prog 118 #[.pointer (some ⟨L.pr,0,none⟩)] w fun e w'=> ∃b,e= .returned (.bool b)/\ ∃h',ah pc L {s with r:=if s.r.left=0 then s.r.flip else s.r} h'/\aj h h' w w':=by
 obtain⟨v,ha',hy,ho,hr,hg,ht,hw,rfl,ca,cy,co,cr,cg,ct,cw⟩:=hc
 by_cases h0:s.r.left=0
 ·refine Calls.mono (O6 L.pr s.r w hr (In.rem (x:=[]) hi) cr h0) fun e w' hh=> ?_
  obtain⟨he,hr',Rx,u⟩:=hh
  rw[if_pos h0]
  exact⟨true,he,_,⟨v,ha',hy,ho,hr',hg,ht,hw,rfl,ca,cy,co,Rx,cg,ct,cw⟩,aj.rem (x:=[]) (aj.refl hi) u⟩
 ·have h1:0<s.r.left:=by
   unfold iq.left at*
   omega
  refine Calls.mono (Gp L.pr s.r w hr (In.rem (x:=[]) hi) cr h1) fun e w' hh=> ?_
  rw[if_neg h0]
  exact⟨false,hh.1,_,⟨v,ha',hy,ho,hr,hg,ht,hw,rfl,ca,cy,co,cr,cg,ct,cw⟩,aj.rem (x:=[]) (aj.refl hi) hh.2⟩
theorem Nq(pc:Nat)(L:aX)(s:af)(i v:Int)(w:World)(h:Hp)(hi:In w h)(hc:ah pc L s h)(hv:I64 v):
  Calls Tryz.prog 80 #[.pointer (some ⟨L.pt,0,none⟩), .int .i64 i, .int .i64 v] w fun e w'=>e= .returned (.int .i64 (bI s.t i))/\ ∃h',ah pc L {s with t:=bP s.t i v} h'/\aj h h' w w':=by
 obtain⟨v0,ha',hy,ho,hr,hg,ht,hw,rfl,ca,cy,co,cr,cg,ct,cw⟩:=hc
 refine Calls.mono (qW L.pt s.t i v w ht (In.table (x:=[]) hi) ct hv) fun e w' hh=> ?_
 obtain⟨he,ht',UH,u⟩:=hh
 exact⟨he,_,⟨v0,ha',hy,ho,hr,hg,ht',hw,rfl,ca,cy,co,cr,cg,UH,cw⟩,aj.table (x:=[]) (aj.refl hi) u⟩
theorem Jy{pc:Nat}{L:aX}{s:af}{h h0:Hp}{w w0:World}(hc:ah pc L s h)(u:aj h0 h w0 w):
  ∃h',ah pc L {s with aG:=true,copied:=0,row:=[]} h'/\aj h0 h' w0 (((w.setCell ⟨pc,21,none⟩ (.bool true)).setCell ⟨pc,23,none⟩ (.int .i64 0)).setCell ⟨pc,25,none⟩ (.slice none 0 0)):=by
 obtain⟨v,ha',hy,ho,hr,hg,ht,hw,rfl,ca,cy,co,cr,cg,ct,cw⟩:=hc
 have u2:=aj.core (x:=[]) (aj.iM (x:=[]) (aj.zy (x:=[]) u true) 0) 25 (.slice none 0 0)
 have u3:=aj.rows (x:=[]) u2 ((aj.refl (In.rows (x:=[]) u2.au)).forget (List.nil_sublist _))
 exact⟨_,⟨.slice none 0 0,ha',hy,ho,hr,hg,ht,[],rfl,ca,cy,co,cr,cg,ct,aK.nil _ _⟩,u3⟩
theorem ah.Pz{pc:Nat}{L:aX}{s:af}{h:Hp}{w:World}(hc:ah pc L s h)(hi:In w h):
  (∃a,w.cell? ⟨pc,21,none⟩=some a)/\ (∃a,w.cell? ⟨pc,22,none⟩=some a)/\ (∃a,w.cell? ⟨pc,23,none⟩=some a)/\ (∃a,w.cell? ⟨pc,25,none⟩=some a)/\ (∀i,w.frozen? ⟨pc,i,none⟩=false):=by
 obtain⟨v,ha',hy,ho,hr,hg,ht,hw,rfl,ca,cy,co,cr,cg,ct,cw⟩:=hc
 exact⟨⟨_,cell_of (In.core (x:=[]) hi) 21⟩,⟨_,cell_of (In.core (x:=[]) hi) 22⟩,⟨_,cell_of (In.core (x:=[]) hi) 23⟩,⟨_,cell_of (In.core (x:=[]) hi) 25⟩,fun i=>aZ (In.core (x:=[]) hi) i⟩
theorem GU(pc:Nat)(L:aX)(s:af)(w:World)(h:Hp)(hi:In w h)(hc:ah pc L s h)(hm:s.Py):
  Calls Tryz.prog 73 #[ptr pc] w fun e w'=>e= .returned (.bool s.jh)/\ ∃h',ah pc L s.eY h'/\aj h h' w w':=by
 obtain⟨f1,f2,f3,f4,ao,cap,f5⟩:=hc.vw hi
 clear f2 f4 f5
 have hcf:=hc.facts
 obtain⟨t64,tI,_,_⟩:=hcf
 have hso:s.jh=(!s.aG&&s.y.oM):=rfl
 have HC:=Lib.hid hc
 cases hmv:s.aG
 ·rw[hmv]at f1 hso
  have hfl:=Np pc L s w h hi hc
  cases hf:s.y.oM
  ·rw[hf]at hso hfl
   have HS:Hid (s.eY=s∨True):=Lib.hid (.inr trivial)
   have HR:Hid (s.eY=s):=Lib.hid (by rw[af.eY,hso];rfl)
   have HFs:Hid (s.y.flip=s.y):=Lib.hid (by simp[aJ.flip,hf])
   have e:s.jh=false:=by rw[hso];rfl
   rw[e]
   clear hm hso hmv hf e hc hi HS
   simp only[ptr]at*
   go_enter Tryz.func73,Tryz.ntmps73
   go_wp2_with(go_at_call 117;refine Calls.mono hfl ?_;rintro e w2 ⟨rfl,h2,c2,u2⟩;have C2:=Lib.hid c2;have U2:=Lib.hid u2;clear c2 u2 hfl)
   go_ret
   have c2:=C2.out
   rw[HFs.out]at c2
   exact⟨rfl,h2,by rw[HR.out];exact c2,U2.out⟩
  ·rw[hf]at hso hfl
   have e:s.jh=true:=by rw[hso];rfl
   have HR:Hid (s.eY=s.begun.handles s.t s.t.length):=Lib.hid (by rw[af.eY,if_pos e])
   have HM:=Lib.hid (hm e)
   rw[e]
   have VM:=Lib.hid (fun S W h (hW:In W h) (hc:ah pc L S h)=>Fe pc L S W h hW hc)
   have Va:=Lib.hid (fun S W h (hW:In W h) (hc:ah pc L S h)=>wR pc L S W h hW hc)
   have PD:=Lib.hid (fun S W h (hW:In W h) (hc:ah pc L S h)=>xH pc L S W h hW hc)
   have Yk:=Lib.hid (fun S r W h (hW:In W h) (hc:ah pc L S h) (hr:I64 r) (m:S.EZ r)=>yN pc L S r W h hW hc hr m.m m.to)
   have HTs:=Lib.hid (fun S i v W h (hW:In W h) (hc:ah pc L S h) (hv:I64 v)=>Nq pc L S i v W h hW hc hv)
   have HP:Hid (∀(S:af) W k h,In W (k++h)->ah pc L S h->W.cell? ⟨pc,16,none⟩=some (.pointer (some ⟨L.pr,0,none⟩))/\W.cell? ⟨pc,18,none⟩=some (.pointer (some ⟨L.pt,0,none⟩))/\W.cell? ⟨pc,14,none⟩=some (.pointer (some ⟨L.py,0,none⟩))):=Lib.hid (fun S W k h hW hc=>⟨(ah.ptrs hc hW).2.2.2.1,(ah.ptrs hc hW).2.2.2.2.2,(ah.ptrs hc hW).2.1⟩)
   have UT:Hid (∀s:af,∀r,I64 r->s.EZ r->I64 (s.dA r)):=Lib.hid (by
    intro s r hr m
    unfold af.dA
    split
    ·exact hr
    ·split
     ·rename_i h1 h2
      refine m.to ?_ h2
      cases hq:s.y.dI r
      ·exact absurd (.inr hq) h1
      ·rfl
     ·exact s.xO hr)
   have VN:=Lib.hid (fun x (hx:x∈s.t)=>tI x hx)
   have Yu:Hid (s.begun.t=s.t):=Lib.hid rfl
   have HB:Hid (∀h,ah pc L {s with y:=s.y.flip,r:=if s.r.left=0 then s.r.flip else s.r,aG:=true,copied:=0,row:=[],scan:=s.y.flip.cf} h->ah pc L s.begun h):=Lib.hid (fun _ hh=>hh)
   have H1:Hid (∀k,s.begun.handles s.t (k+1)=(s.begun.handles s.t k).Vb k (s.t.getD k 0)):=Lib.hid (fun _=>rfl)
   have HO:Hid (∀(S:af) (k:Nat) (a:Int),S.Vb k a={S.move a with t:=bP (S.move a).t k (S.dA a)}):=Lib.hid (fun _ _ _=>rfl)
   clear hm hso hmv hf hc hi e tI
   generalize hl:s.t=l at*
   have Yv:=Lib.hid hl
   clear hl
   simp only[ptr]at*
   go_enter Tryz.func73,Tryz.ntmps73
   go_wp2_with(first
    | (go_at_call 117;refine Calls.mono hfl ?_;rintro e w2 ⟨rfl,h2,c2,u2⟩;have C2:=Lib.hid c2;have U2:=Lib.hid u2;have k16:=(HP.out _ w2 [] h2 u2.au c2).1;clear c2 u2 hfl)
    | (go_at_call 118;refine Calls.mono (VM.out _ _ _ U2.out.au C2.out) ?_;rintro e w3 ⟨b3,rfl,h3,c3,u3⟩;have U3:=Lib.hid (U2.out.trans u3);(obtain⟨⟨z21,k21⟩,_,⟨z23,k23⟩,⟨z25,k25⟩,yz⟩:=c3.Pz U3.out.au);have y21:=yz 21;have y23:=yz 23;have y25:=yz 25;have k14:=(HP.out _ w3 [] h3 U3.out.au c3).2.2;have C3:=Lib.hid c3;clear u3 k16 c3 yz)
    | (go_at_call 119;(obtain⟨h4,c4,u4⟩:=Jy C3.out U3.out);have U4:=Lib.hid u4;have C4:=Lib.hid c4;clear u4 c4;refine Calls.mono (Va.out _ _ _ U4.out.au C4.out) ?_;rintro e w5 ⟨rfl,u5⟩;have U5:=Lib.hid (U4.out.trans u5);(obtain⟨_,⟨z22,k22⟩,_,_,yz⟩:=C4.out.Pz U5.out.au);have y22:=yz 22;have k18:=(HP.out _ w5 [] h4 U5.out.au C4.out).2.1;clear u5 yz)
    | (go_at_call 65;(obtain⟨h6,c6,u6⟩:=xU C4.out U5.out s.y.flip.cf);(have C6:=Lib.hid (HB.out _ c6));have U6:=Lib.hid u6;refine Calls.mono (PD.out _ _ _ u6.au C6.out) ?_;rintro e w7 ⟨v7,h7,rfl,s7,u7⟩;rw[Yu.out]at s7;have Vd:=Lib.hid s7;have U7:=Lib.hid (U6.out.more u7);obtain⟨Xx,QU,rfl,PE⟩:=s7.shape;clear s7 u7 c6 u6))
   have HLt:Hid (s.t.length=l.length):=Lib.hid (by rw[Yv.out])
   have H0:Hid (∃h',ah pc L (s.begun.handles l 0) h'/\aj h (h7++h') w w7):=Lib.hid ⟨h6,C6.out,U7.out⟩
   go_loopw [52] (fun i wr=> ∃k:Nat,k<=l.length/\i= .int .i64 k/\Hid (∃h',ah pc L (s.begun.handles l k) h'/\aj h (h7++h') w wr)) (fun i _=>l.length-(intOf i).toNat)
   case atStart=>exact⟨0,by omega,rfl,H0⟩
   case round=>
    obtain⟨k,hk,rfl,HW⟩:=hrel
    by_cases hlt:k<l.length
    ·obtain⟨hk1,ck,uk⟩:=HW.out
     obtain⟨gb,off,rfl,hcj⟩:=aK.nH (kd:= .i64) Vd.out uk.au.left hlt
     have hai:I64 (l.getD k 0):=VN.out _ (by simp[List.getD,hlt])
     have hmk:=HM.out k hlt
     have hnx:=H1.out k
     have hTV:=UT.out _ _ hai hmk
     have hho:=HO.out (s.begun.handles l k) k (l.getD k 0)
     have Yw:=(HP.out _ wr h7 hk1 uk.au ck).2.1
     have hmv:=fun W h (hW:In W h) (hc:ah pc L (s.begun.handles l k) h)=>Yk.out (s.begun.handles l k) (l.getD k 0) W h hW hc hai hmk
     have VL:=Lib.hid hmv
     have HNX:=Lib.hid hnx
     have HHO:=Lib.hid hho
     have Ah:=Lib.hid uk.drew'
     have UZ:=Lib.hid ck
     clear hmv hnx hho ck uk HW hmk
     generalize s.begun.handles l k=S at*
     generalize l.getD k 0=a at*
     generalize S.dA a=T at*
     generalize S.move a=M at*
     have hS0:wr.drew.cell? ⟨pc,18,none⟩=some (.pointer (some ⟨L.pt,0,none⟩)):=Yw
     go_wp2
     go_region_held3 (fun w'=>w'.cell? ⟨pc,18,none⟩=some (.pointer (some ⟨L.pt,0,none⟩)))
      (first|with_reducible exact hS0|with_reducible exact wO|with_reducible exact Dl|go_keep)
      (first
       | (go_at_call 100;refine Calls.mono (VL.out _ _ Ah.out.au.right UZ.out) ?_;rintro e w9 ⟨rfl,h9,c9,u9⟩;have U9:=Lib.hid (aj.fM Ah.out u9);have wO:=(HP.out _ w9 h7 h9 U9.out.au c9).2.1;have C9:=Lib.hid c9;clear u9 c9)
       | (go_at_call 80;refine Calls.mono (HTs.out M k T _ _ U9.out.au.right C9.out hTV) ?_;rintro e w10 ⟨rfl,h10,c10,u10⟩;have xu:=Lib.hid (aj.fM U9.out u10);have Dl:=(HP.out _ w10 h7 h10 xu.out.au c10).2.1;have C10:=Lib.hid c10;clear u10 c10))
     go_wp2
     go_roundw
     case rel=>exact⟨k+1,by omega,by go_num,Lib.hid ⟨h10,by rw[HNX.out,HHO.out];exact C10.out,xu.out⟩⟩
     case measure=>simp[intOf];omega
    ·obtain rfl:k=l.length:=by omega
     go_wp2
     go_ret
     obtain⟨hk1,ck,uk⟩:=HW.out
     exact⟨rfl,hk1,by rw[HR.out];exact ck,uk.forget (List.sublist_append_right _ _)⟩
 ·rw[hmv]at f1 hso
  have e:s.jh=false:=by rw[hso];rfl
  have HR:Hid (s.eY=s):=Lib.hid (by rw[af.eY,e];rfl)
  have HU:=Lib.hid (aj.refl hi)
  rw[e]
  clear hm hso hmv e hc hi
  simp only[ptr]at*
  go_enter Tryz.func73,Tryz.ntmps73
  go_wp2
  go_ret
  exact⟨rfl,h,by rw[HR.out];exact HC.out,HU.out⟩
end Go.Proofs.YtibemcgdmembeaaGreat
namespace Go.Proofs.YtibemcgdmembeaaGreat
open Go.RowKit
def gJ(c:gX):af where
 C:=c
 ws:=List.replicate c.words.toNat 0
 y:=qY 1 c.aU
 o:=⟨c.jv,c.page,List.replicate c.pages.toNat yC⟩
 r:=⟨c.jv,c.pages*c.page,c.card,c.buffer,⟨c.buffer,[]⟩,fF c.jv (c.pages*c.page) c.card,⟨c.buffer,[]⟩,fF c.jv (c.pages*c.page) c.card⟩
 g:=⟨c.stack,[],false⟩
 t:=List.replicate c.handles.toNat 0
 parity:=0
 phase:=0
 aG:=false
 scan:=0
 copied:=0
 look:= -1
 row:=[]
 done:=Wi
structure gX.Fits(c:gX):Prop where
 h1:1<=c.handles
 h2:c.handles<=64
 n1:8<=c.aU
 n2:c.aU<=4096
 p1:0<=c.pages
 p2:c.pages<=64
 g1:16<=c.page
 g2:c.page<=256
 c1:1<=c.card
 c2:c.card<=c.page
 c3:c.page % c.card=0
 b1:0<=c.buffer
 b2:c.buffer<=256
 s1:1<=c.stack
 s2:c.stack<=256
 t1:1<=c.d_
 t2:c.d_<=7
 l1:0<=c.largest
 l2:c.largest<=64
 l3:c.largest+2<=c.aU
theorem gX.fits{c:gX}(h:c.ok=true):c.Fits:=by
 simp only[gX.ok,gX.sizes,gX.rows,gX.KU,Bool.and_eq_true,within_iff,decide_eq_true_eq]at h
 obtain⟨⟨⟨⟨⟨⟨⟨⟨a1,a2⟩,a3⟩,a4⟩,hc⟩,hm⟩,⟨⟨⟨r1,r2⟩,r3⟩,r4⟩⟩,ht⟩,hl⟩:=h
 exact⟨by omega,by omega,by omega,by omega,by omega,by omega,by omega,by omega,by omega,by omega,by omega,by omega,by omega,by omega,by omega,by omega,by omega,by omega,by omega,by omega⟩
theorem gX.Fits.small{c:gX}(h:c.Fits):c.Small:=⟨by have:=h.n1;omega,h.n2,h.p1,h.p2,by have:=h.g1;omega,h.g2⟩
theorem Wx{α:Type}(x:α)(a b c d e f:List α):(x::(f++(e++(d++(c++(b++a)))))).Perm ([[x],a,b,c,d,e,f,[]].flatten):=by
 have h1:(b++a).Perm (a++b):=List.perm_append_comm
 have h2:(c++(b++a)).Perm (a++b++c):=List.perm_append_comm.trans (h1.append_right c)
 have h3:(d++(c++(b++a))).Perm (a++b++c++d):=List.perm_append_comm.trans (h2.append_right d)
 have h4:(e++(d++(c++(b++a)))).Perm (a++b++c++d++e):=List.perm_append_comm.trans (h3.append_right e)
 have h5:(f++(e++(d++(c++(b++a))))).Perm (a++b++c++d++e++f):=List.perm_append_comm.trans (h4.append_right f)
 simpa using h5.cons x
theorem PG(c:gX)(hb:c.ok=true)(w:World):
  Calls Tryz.prog 47 #[.agg (aN c)] w fun e w'=> ∃pc L h',e= .returned (.tuple #[ptr pc, .int .i64 0])/\ah pc L (gJ c) h'/\aj [] h' w w':=by
 have PI:=Jz c
 have he:c.err=0:=by simp[gX.err,hb]
 rw[he]at PI
 have hf:=gX.fits hb
 have hsm:=hf.small
 obtain⟨m1,m2⟩:=gX.pU hsm
 have Yx:=zA c
 have hM1:0<c.jv:=by have:=hf.n1;unfold gX.jv;omega
 have hM2:c.jv<=10000:=by have:=hf.n2;unfold gX.jv;omega
 have Yy:0<c.words:=by unfold gX.words;omega
 have Yz:c.words<=30000:=by unfold gX.words;omega
 have Ve:=fun W=>JA c W hsm
 have Wy:=fun W=>Nr c W hsm
 have Vf: ∀W,Calls Tryz.prog 90 #[.int .i64 c.words] W fun e w'=> ∃p h',e= .returned (.pointer (some ⟨p,0,none⟩))/\dZ p (List.replicate c.words.toNat 0) h'/\aj [] h' W w':=by
  intro W
  have:=Me c.words.toNat W (by omega) (by omega)
  rwa[Int.toNat_of_nonneg (by omega)]at this
 have WA:=fun W=>OZ 1 c.aU W (by decide) (by decide) (by have:=hf.n1;omega) (by have:=hf.n2;omega)
 have RD: ∀W,Calls Tryz.prog 94 #[.int .i64 c.jv, .int .i64 c.pages, .int .i64 c.page] W fun e w'=> ∃p h',e= .returned (.pointer (some ⟨p,0,none⟩))/\eF p ⟨c.jv,c.page,List.replicate c.pages.toNat yC⟩ h'/\aj [] h' W w':=by
  intro W
  have:=I4 c.jv c.pages.toNat c.page W hM1 (by omega) (by have:=hf.p2;omega) (by have:=hf.g1;omega) hf.g2
  rwa[Int.toNat_of_nonneg hf.p1]at this
 have YA:=fun W=>Q9 c.jv (c.pages*c.page) c.card c.buffer W hM1 (by omega) m1 (by omega) hf.c1 (by have:=hf.c2;have:=hf.g2;omega) hf.b1 (by have:=hf.b2;omega)
 have WB: ∀W,Calls Tryz.prog 96 #[.int .i64 c.stack] W fun e w'=> ∃p h',e= .returned (.pointer (some ⟨p,0,none⟩))/\lQ p ⟨c.stack,[],false⟩ h'/\aj [] h' W w':=by
  intro W
  have:=O1 c.stack.toNat W (by have:=hf.s1;omega) (by have:=hf.s2;omega)
  rwa[Int.toNat_of_nonneg (by have:=hf.s1;omega)]at this
 have Vg: ∀W,Calls Tryz.prog 97 #[.int .i64 c.handles] W fun e w'=> ∃p h',e= .returned (.pointer (some ⟨p,0,none⟩))/\lH p (List.replicate c.handles.toNat 0) h'/\aj [] h' W w':=by
  intro W
  have:=LX c.handles.toNat W (by have:=hf.h1;omega) (by have:=hf.h2;omega)
  rwa[Int.toNat_of_nonneg (by have:=hf.h1;omega)]at this
 have U0:=aj.alloc (In.nil w) (.cells (aN c) 23 (0,0))
 have hwr:IntKind.i64.wrap (c.pages*c.page)=c.pages*c.page:=IntWalk.i64_in _ (by omega)
 have HF:=Lib.hid hf
 clear hf hb he m1 m2 hM1 hM2 Yy Yz
 go_enter Tryz.func47,Tryz.ntmps47
 simp only[aN]
 go_wp2_with(go_at_call 15;refine Calls.mono (PI _) ?_;rintro e w1 ⟨rfl,u1⟩;have U1:=(U0.dK u1).drew';have hS1:=dY (c:=c) (U1.au.mem (b:=w.heap.size) (o:= .cells (aN c) 23 (0,0)) (by simp)))
 go_region_held3 (fun w'=>w'.cell? ⟨w.heap.size,0,none⟩=some (.int .i64 c.handles)/\w'.cell? ⟨w.heap.size,1,none⟩=some (.int .i64 c.aU)/\w'.cell? ⟨w.heap.size,2,none⟩=some (.int .i64 c.pages)/\w'.cell? ⟨w.heap.size,3,none⟩=some (.int .i64 c.page)/\w'.cell? ⟨w.heap.size,4,none⟩=some (.int .i64 c.card)/\w'.cell? ⟨w.heap.size,5,none⟩=some (.int .i64 c.buffer)/\w'.cell? ⟨w.heap.size,6,none⟩=some (.int .i64 c.stack)/\w'.cell? ⟨w.heap.size,7,none⟩=some (.int .i64 c.d_)/\w'.cell? ⟨w.heap.size,8,none⟩=some (.int .i64 c.largest)/\w'.cell? ⟨w.heap.size,9,none⟩=some (.int .i64 c.minor)/\w'.cell? ⟨w.heap.size,10,none⟩=some (.int .i64 c.major)/\w'.cell? ⟨w.heap.size,11,none⟩=some (.int .i64 c.dH)/\w'.cell? ⟨w.heap.size,12,none⟩=some (.int .i64 c.dm))
  (first|exact hS2|exact hS1|go_keep)
  (first|(go_at_call 89;refine Calls.mono (Yx _ hsm) ?_;rintro e w2 ⟨rfl,u2⟩;have U2:=U1.dK u2;have hS2:=dY (c:=c) (U2.au.mem (b:=w.heap.size) (o:= .cells (aN c) 23 (0,0)) (by simp))))
 go_wp2
 have U3:=U2.drew'
 have hS3:=dY (c:=c) (U3.au.mem (b:=w.heap.size) (o:= .cells (aN c) 23 (0,0)) (by simp))
 clear hS1 hS2
 go_region_held3 (fun w'=>w'.cell? ⟨w.heap.size,0,none⟩=some (.int .i64 c.handles)/\w'.cell? ⟨w.heap.size,1,none⟩=some (.int .i64 c.aU)/\w'.cell? ⟨w.heap.size,2,none⟩=some (.int .i64 c.pages)/\w'.cell? ⟨w.heap.size,3,none⟩=some (.int .i64 c.page)/\w'.cell? ⟨w.heap.size,4,none⟩=some (.int .i64 c.card)/\w'.cell? ⟨w.heap.size,5,none⟩=some (.int .i64 c.buffer)/\w'.cell? ⟨w.heap.size,6,none⟩=some (.int .i64 c.stack)/\w'.cell? ⟨w.heap.size,7,none⟩=some (.int .i64 c.d_)/\w'.cell? ⟨w.heap.size,8,none⟩=some (.int .i64 c.largest)/\w'.cell? ⟨w.heap.size,9,none⟩=some (.int .i64 c.minor)/\w'.cell? ⟨w.heap.size,10,none⟩=some (.int .i64 c.major)/\w'.cell? ⟨w.heap.size,11,none⟩=some (.int .i64 c.dH)/\w'.cell? ⟨w.heap.size,12,none⟩=some (.int .i64 c.dm))
  (first|exact MM|exact Dl|exact wO|exact RF|exact hS7|exact hS6|exact hS5|exact hS4|exact hS3|go_keep)
  (first
   | (go_at_call 91;refine Calls.mono (Ve _) ?_;rintro e w4 ⟨rfl,u4⟩;have U4:=U3.dK u4;have hS4:=dY (c:=c) (U4.au.mem (b:=w.heap.size) (o:= .cells (aN c) 23 (0,0)) (by simp));clear hS3)
   | (go_at_call 90;refine Calls.mono (Vf _) ?_;rintro e w5 ⟨p5,h5,rfl,y5,u5⟩;have U5:=U4.more u5;have hS5:=dY (c:=c) (U5.au.mem (b:=w.heap.size) (o:= .cells (aN c) 23 (0,0)) (by simp));clear hS4)
   | (go_at_call 93;refine Calls.mono (Wy _) ?_;rintro e w6 ⟨rfl,u6⟩;have U6:=U5.dK u6;have hS6:=dY (c:=c) (U6.au.mem (b:=w.heap.size) (o:= .cells (aN c) 23 (0,0)) (by simp));clear hS5)
   | (go_at_call 92;refine Calls.mono (WA _) ?_;rintro e w7 ⟨p7,h7,rfl,y7,u7⟩;have U7:=U6.more u7;have hS7:=dY (c:=c) (U7.au.mem (b:=w.heap.size) (o:= .cells (aN c) 23 (0,0)) (by simp));clear hS6)
   | (go_at_call 94;refine Calls.mono (RD _) ?_;rintro e w8 ⟨p8,h8,rfl,y8,u8⟩;have U8:=U7.more u8;have RF:=dY (c:=c) (U8.au.mem (b:=w.heap.size) (o:= .cells (aN c) 23 (0,0)) (by simp));clear hS7)
   | (go_at_call 95;refine Calls.mono (YA _) ?_;rintro e w9 ⟨p9,h9,rfl,y9,u9⟩;have U9:=U8.more u9;have wO:=dY (c:=c) (U9.au.mem (b:=w.heap.size) (o:= .cells (aN c) 23 (0,0)) (by simp));clear RF)
   | (go_at_call 96;refine Calls.mono (WB _) ?_;rintro e w10 ⟨p10,h10,rfl,Oy,u10⟩;have xu:=U9.more u10;have Dl:=dY (c:=c) (xu.au.mem (b:=w.heap.size) (o:= .cells (aN c) 23 (0,0)) (by simp));clear wO)
   | (go_at_call 97;refine Calls.mono (Vg _) ?_;rintro e w11 ⟨p11,h11,rfl,y11,u11⟩;have YB:=xu.more u11;have MM:=dY (c:=c) (YB.au.mem (b:=w.heap.size) (o:= .cells (aN c) 23 (0,0)) (by simp));clear Dl))
 go_wp2
 have UG:=(YB.forget ((((((List.sublist_append_left h5 [(w.heap.size, .cells (aN c) 23 (0,0))]).append_left h7).append_left h8).append_left h9).append_left h10).append_left h11)).alloc' (bG ⟨p5,p7,p8,p9,p10,p11⟩ (gJ c) (.slice none 0 0))
 have UF:=UG.perm (List.Perm.refl _) (Wx _ h5 h7 h8 h9 h10 h11)
 clear MM U0 U1 U2 U3 U4 U5 U6 U7 U8 U9 xu YB UG
 go_ret2
 exact⟨w11.heap.size,⟨p5,p7,p8,p9,p10,p11⟩,_,rfl,⟨.slice none 0 0,h5,h7,h8,h9,h10,h11,[],rfl,y5,y7,y8,y9,Oy,y11,aK.nil _ _⟩,UF⟩
end Go.Proofs.YtibemcgdmembeaaGreat
