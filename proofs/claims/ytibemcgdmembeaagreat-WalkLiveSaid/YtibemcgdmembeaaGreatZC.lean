/- What Move of package core comes to, whatever the place. Conditions: a core whose parts are as New makes them. -/
import Derived.Test.YtibemcgdmembeaaGreatRows
import Derived.Test.YtibemcgdmembeaaGreatZA
import Derived.Test.YtibemcgdmembeaaGreatZN
import Derived.BigQuiet
import Derived.Deep.QuietTactic
import Derived.Deep.RegionHeld3
import Derived.Deep.Cut
import Derived.Test.YtibemcgdmembeaaGreatZB
set_option linter.unusedVariables false
set_option linter.unusedSimpArgs false
set_option maxRecDepth 100000
set_option maxHeartbeats 4000000
namespace Go.Proofs.YtibemcgdmembeaaGreat
open Go.RowKit
def aQ(ws:List Int)(i n:Int):Int:=wrap64 (oU ws (place i n))
theorem ry(pc:Nat)(L:aX)(s:af)(i:Int)(w:World)(h:Hp)(hi:In w h)(hc:ah pc L s h):
  Calls Tryz.prog 110 #[ptr pc, .int .i64 i] w fun e w'=>
   e= .returned (.agg (aF (ag s.ws i)))/\ ∃h',ah pc L s h'/\aj h h' w w':=by
 obtain⟨v,ha,hy,ho,hr,hg,ht,hw,rfl,ca,cy,co,cr,cg,ct,cw⟩:=hc
 have U0:=aj.box (x:=[]) (aj.refl hi) (.cells (aF hd0) 92 (0,0))
 obtain⟨p1,p2,p3,p4,p5,p6⟩:=aS U0.au.core
 have hl:=Pe L.pa s.ws i _ ha U0.au.arena ca
 clear p2 p3 p4 p5 p6
 generalize hH:ag s.ws i=H at*
 clear hH
 simp only[ptr,aF,hd0]at p1 hl
 simp only[ptr]at*
 go_enter Tryz.func110,Tryz.ntmps110
 go_wp2_with(go_at_call 144;refine Calls.mono hl ?_;rintro e w1 ⟨rfl,ha',ca',u1⟩;have U1:=U0.arena (x:=[_]) u1;have UE:=U1.au.lt (b:=w.heap.size) (by simp);have X8:=Nat.ne_of_lt UE;obtain⟨d0,d1,d2,d3,d4,d5,d6⟩:=bW U1.au.head;obtain⟨f0,f1,f2,f3,f4,f5,f6⟩:=kX U1.au.head)
 have UF:=(U1.hd H).OV (.cells (aF H) 92 (0,0))
 have G:=bW UF.au.head
 simp only[aF]at G
 obtain⟨g0,g1,g2,g3,g4,g5,g6⟩:=G
 clear d0 d1 d2 d3 d4 d5 d6 f0 f1 f2 f3 f4 f5 f6
 refine bodyPost_ret (v:= .agg (aF H)) ?_ rfl ⟨rfl,_,⟨v,ha',hy,ho,hr,hg,ht,hw,rfl,ca',cy,co,cr,cg,ct,cw⟩,UF.drop1⟩
 simp only[results,Tryz.results110]
 simp[go_sem,aF,g0,g1,g2,g3,g4,g5,g6]
theorem uI(pc:Nat)(L:aX)(s:af)(i n:Int)(w:World)(h:Hp)(hi:In w h)(hc:ah pc L s h):
  Calls Tryz.prog 61 #[ptr pc, .int .i64 i, .int .i64 n] w fun e w'=>
   e= .returned (.int .i64 (aQ s.ws i n))/\ ∃h',ah pc L s h'/\aj h h' w w':=by
 obtain⟨v,ha,hy,ho,hr,hg,ht,hw,rfl,ca,cy,co,cr,cg,ct,cw⟩:=hc
 have U0:=aj.refl hi
 obtain⟨p1,p2,p3,p4,p5,p6⟩:=aS (In.core (x:=[]) hi)
 have hl:=yJ L.pa s.ws i n _ ha (In.arena (x:=[]) hi) ca
 clear p2 p3 p4 p5 p6
 unfold aQ
 simp only[ptr]at*
 go_enter Tryz.func61,Tryz.ntmps61
 go_wp2_with(go_at_call 62;refine Calls.mono hl ?_;rintro e w1 ⟨rfl,ha',ca',u1⟩;have U1:=aj.arena (x:=[]) U0 u1)
 go_ret
 exact⟨rfl,_,⟨v,ha',hy,ho,hr,hg,ht,hw,rfl,ca',cy,co,cr,cg,ct,cw⟩,U1⟩
theorem pG(pc:Nat)(L:aX)(s:af)(i:Int)(x:Hd)(hx:x.Good)(w:World)(h:Hp)(hi:In w h)(hc:ah pc L s h):
  Calls Tryz.prog 140 #[ptr pc, .int .i64 i, .agg (aF x)] w fun e w'=>
   e= .returned (.tuple #[])/\ ∃h',ah pc L {s with ws:=iQ s.ws i x.enc} h'/\aj h h' w w':=by
 obtain⟨v,ha,hy,ho,hr,hg,ht,hw,rfl,ca,cy,co,cr,cg,ct,cw⟩:=hc
 have U0:=aj.box (x:=[]) (aj.refl hi) (.cells (aF x) 92 (0,0))
 obtain⟨p1,p2,p3,p4,p5,p6⟩:=aS U0.au.core
 have hl:=fun W (oz:In W ha)=>uJ L.pa s.ws i x hx W ha oz ca
 have V_:=U0.drew'
 have hl1:=hl _ (aj.au V_).arena
 clear p2 p3 p4 p5 p6 hl
 simp only[ptr,aF]at*
 go_enter Tryz.func140,Tryz.ntmps140
 go_wp2
 refine eP 6 (by kernel_rfl) (by kernel_rfl) fun w1 hw1=> ?_
 subst hw1
 simp only[List.take_succ_cons,List.take_zero,List.drop_succ_cons,List.drop_zero]
 repeat(refine wpStill_step (fun K hK=> ?_);have HK:=Lib.hid hK;clear hK;go_simp;refine HK.out _ ?_;clear HK K)
 refine wpStill_nil ?_
 go_wp2_with(go_at_call 129;refine Calls.mono hl1 ?_;rintro e w1 ⟨rfl,ha',ca',u1⟩;have U1:=V_.arena (x:=[_]) u1)
 go_end0
 exact⟨rfl,_,⟨v,ha',hy,ho,hr,hg,ht,hw,rfl,ca',cy,co,cr,cg,ct,cw⟩,U1.drop1⟩
def af.fP(s:af)(i:Int):Int:=if bY s.t i then(if aB s.t i=0 then 4 else 0)else 3
def af.iO(s:af)(i:Int):Hd:=if s.fP i=0 then ag s.ws (aB s.t i)else hd0
theorem mJ(pc:Nat)(L:aX)(s:af)(i:Int)(w:World)(h:Hp)(hi:In w h)(hc:ah pc L s h):
  Calls Tryz.prog 99 #[ptr pc, .int .i64 i] w fun e w'=>
   e= .returned (.tuple #[.int .i64 (aB s.t i), .agg (aF (s.iO i)), .int .i64 (s.fP i)])/\ ∃h',ah pc L s h'/\aj h h' w w':=by
 by_cases ho:bY s.t i=true
 ·have e1:bI s.t i=0:=by simp[bI,ho]
  by_cases hz:aB s.t i=0
  ·have e2:s.fP i=4:=by simp[af.fP,ho,hz]
   have e3:s.iO i=hd0:=by simp[af.iO,e2]
   rw[e2,e3,hz]
   obtain⟨v,ha,hy,ho',hr,hg,ht,hw,rfl,ca,cy,co,cr,cg,ct,cw⟩:=hc
   have U0:=aj.box (x:=[]) (aj.refl hi) (.cells (aF hd0) 92 (0,0))
   obtain⟨p1,p2,p3,p4,p5,p6⟩:=aS U0.au.core
   have hl:=ku L.pt s.t i _ ht U0.au.table ct
   rw[e1,hz]at hl
   clear p1 p2 p3 p4 p5 e1 e2 e3 ho hz
   simp only[ptr,aF,hd0]at p6 hl
   simp only[ptr]at*
   go_enter Tryz.func99,Tryz.ntmps99
   go_wp2_with(go_at_call 81;refine Calls.mono hl ?_;rintro e w1 ⟨rfl,rfl⟩)
   have UF:=U0
   have G:=bW UF.au.head
   simp only[aF,hd0]at G
   obtain⟨g0,g1,g2,g3,g4,g5,g6⟩:=G
   refine bodyPost_ret (v:= .tuple #[.int .i64 0, .agg (aF hd0), .int .i64 4]) ?_ rfl ⟨rfl,_,⟨v,ha,hy,ho',hr,hg,ht,hw,rfl,ca,cy,co,cr,cg,ct,cw⟩,UF.drop1⟩
   simp only[results,Tryz.results99]
   simp[go_sem,aF,hd0,g0,g1,g2,g3,g4,g5,g6]
  ·have e2:s.fP i=0:=by simp[af.fP,ho,hz]
   have e3:s.iO i=ag s.ws (aB s.t i):=by simp[af.iO,e2]
   rw[e2,e3]
   have hhd:=fun W h (hi:In W h) (hc:ah pc L s h)=>ry pc L s (aB s.t i) W h hi hc
   have X9:=hhd
   obtain⟨v,ha,hy,ho',hr,hg,ht,hw,rfl,ca,cy,co,cr,cg,ct,cw⟩:=hc
   have U0:=aj.box (x:=[]) (aj.refl hi) (.cells (aF hd0) 92 (0,0))
   obtain⟨p1,p2,p3,p4,p5,p6⟩:=aS U0.au.core
   have hl:=ku L.pt s.t i _ ht U0.au.table ct
   have hh:=hhd _ _ (U0.au.tail) ⟨v,ha,hy,ho',hr,hg,ht,hw,rfl,ca,cy,co,cr,cg,ct,cw⟩
   rw[e1]at hl
   generalize aB s.t i=k at*
   generalize ag s.ws k=H at*
   clear p1 p2 p3 p4 p5 e1 e2 e3 ho hhd X9
   simp only[ptr,aF,hd0]at p6 hl hh
   simp only[ptr]at*
   go_enter Tryz.func99,Tryz.ntmps99
   go_wp2_with(first|(go_at_call 81;refine Calls.mono hl ?_;rintro e w1 ⟨rfl,rfl⟩)|(go_at_call 110;refine Calls.mono hh ?_;rintro e w1 ⟨rfl,h',c',u1⟩;have U1:=aj.under U0 u1;have UE:=U1.au.lt (b:=w.heap.size) (by simp);have X8:=Nat.ne_of_lt UE;obtain⟨d0,d1,d2,d3,d4,d5,d6⟩:=bW U1.au.head;obtain⟨f0,f1,f2,f3,f4,f5,f6⟩:=kX U1.au.head))
   have UF:=(U1.hd H)
   have G:=bW UF.au.head
   try simp only[aF]at G
   obtain⟨g0,g1,g2,g3,g4,g5,g6⟩:=G
   clear d0 d1 d2 d3 d4 d5 d6 f0 f1 f2 f3 f4 f5 f6
   refine bodyPost_ret (v:= .tuple #[.int .i64 k, .agg (aF H), .int .i64 0]) ?_ rfl ⟨rfl,_,c',UF.drop1⟩
   simp only[results,Tryz.results99]
   simp[go_sem,aF,hd0,g0,g1,g2,g3,g4,g5,g6]
 ·have ho2:bY s.t i=false:=by simpa using ho
  have e1:bI s.t i=3:=by simp[bI,ho2]
  have hz:aB s.t i=0:=by simp[aB,ho2]
  have e2:s.fP i=3:=by simp[af.fP,ho2]
  have e3:s.iO i=hd0:=by simp[af.iO,e2]
  rw[e2,e3,hz]
  obtain⟨v,ha,hy,ho',hr,hg,ht,hw,rfl,ca,cy,co,cr,cg,ct,cw⟩:=hc
  have U0:=aj.box (x:=[]) (aj.refl hi) (.cells (aF hd0) 92 (0,0))
  obtain⟨p1,p2,p3,p4,p5,p6⟩:=aS U0.au.core
  have hl:=ku L.pt s.t i _ ht U0.au.table ct
  rw[e1,hz]at hl
  clear p1 p2 p3 p4 p5 e1 e2 e3 ho ho2 hz
  simp only[ptr,aF,hd0]at p6 hl
  simp only[ptr]at*
  go_enter Tryz.func99,Tryz.ntmps99
  go_wp2_with(go_at_call 81;refine Calls.mono hl ?_;rintro e w1 ⟨rfl,rfl⟩)
  have UF:=U0
  have G:=bW UF.au.head
  simp only[aF,hd0]at G
  obtain⟨g0,g1,g2,g3,g4,g5,g6⟩:=G
  refine bodyPost_ret (v:= .tuple #[.int .i64 0, .agg (aF hd0), .int .i64 3]) ?_ rfl ⟨rfl,_,⟨v,ha,hy,ho',hr,hg,ht,hw,rfl,ca,cy,co,cr,cg,ct,cw⟩,UF.drop1⟩
  simp only[results,Tryz.results99]
  simp[go_sem,aF,hd0,g0,g1,g2,g3,g4,g5,g6]
theorem Jc(pc:Nat)(L:aX)(s:af)(i:Int)(w:World)(h:Hp)(hi:In w h)(hc:ah pc L s h):
  Calls Tryz.prog 40 #[ptr pc, .int .i64 i] w fun e w'=>
   e= .returned (.int .i64 (bI s.t i))/\ ∃h',ah pc L {s with t:=bP s.t i 0} h'/\aj h h' w w':=by
 obtain⟨v,ha,hy,ho,hr,hg,ht,hw,rfl,ca,cy,co,cr,cg,ct,cw⟩:=hc
 have U0:=aj.refl hi
 obtain⟨p1,p2,p3,p4,p5,p6⟩:=aS (In.core (x:=[]) hi)
 have hl:=qW L.pt s.t i 0 _ ht (In.table (x:=[]) hi) ct (I64.small (by decide) (by decide))
 clear p1 p2 p3 p4 p5
 simp only[ptr]at*
 go_enter Tryz.func40,Tryz.ntmps40
 go_wp2_with(go_at_call 80;refine Calls.mono hl ?_;rintro e w1 ⟨rfl,ht',UH,u1⟩;have U1:=aj.table (x:=[]) U0 u1)
 go_ret
 exact⟨rfl,_,⟨v,ha,hy,ho,hr,hg,ht',hw,rfl,ca,cy,co,cr,cg,UH,cw⟩,U1⟩
def af.nG(s:af)(i j:Int):Int:=if bY s.t j then bI s.t i else 3
def af.tX(s:af)(i j:Int):List Int:=if bY s.t j then bP s.t i (aB s.t j)else s.t
theorem wP{l:List Int}(hl: ∀x∈l,I64 x)(i:Int):I64 (aB l i):=by
 unfold aB
 split
 ·rename_i ho
  simp only[bY,decide_eq_true_eq]at ho
  have hk:i.toNat<l.length:=by omega
  have:l.getD i.toNat 0=l[i.toNat]:=by simp[List.getD,hk]
  rw[this]
  exact hl _ (List.getElem_mem hk)
 ·exact I64.small (by decide) (by decide)
theorem lH.nums{p:Nat}{l:List Int}{h:Hp}(ht:lH p l h): ∀x∈l,I64 x:=by
 obtain⟨_,_,_,hx⟩:=ht
 exact hx
theorem MP(pc:Nat)(L:aX)(s:af)(i j:Int)(w:World)(h:Hp)(hi:In w h)(hc:ah pc L s h):
  Calls Tryz.prog 52 #[ptr pc, .int .i64 i, .int .i64 j] w fun e w'=>
   e= .returned (.int .i64 (s.nG i j))/\ ∃h',ah pc L {s with t:=s.tX i j} h'/\aj h h' w w':=by
 have hc0:=hc
 obtain⟨v,ha,hy,ho,hr,hg,ht,hw,rfl,ca,cy,co,cr,cg,ct,cw⟩:=hc
 have U0:=aj.refl hi
 obtain⟨p1,p2,p3,p4,p5,p6⟩:=aS (In.core (x:=[]) hi)
 have hget:=ku L.pt s.t j _ ht (In.table (x:=[]) hi) ct
 have hset:=qW L.pt s.t i (aB s.t j) _ ht (In.table (x:=[]) hi) ct (wP ct.nums j)
 clear p1 p2 p3 p4 p5
 by_cases hk:bY s.t j=true
 ·have e1:s.nG i j=bI s.t i:=by simp[af.nG,hk]
  have e2:s.tX i j=bP s.t i (aB s.t j):=by simp[af.tX,hk]
  have e3:bI s.t j=0:=by simp[bI,hk]
  rw[e1,e2]
  rw[e3]at hget
  clear e1 e2 e3 hk
  simp only[ptr]at*
  go_enter Tryz.func52,Tryz.ntmps52
  go_wp2_with(first|(go_at_call 81;refine Calls.mono hget ?_;rintro e w1 ⟨rfl,rfl⟩)|(go_at_call 80;refine Calls.mono hset ?_;rintro e w1 ⟨rfl,ht',UH,u1⟩;have U1:=aj.table (x:=[]) U0 u1))
  go_ret
  exact⟨rfl,_,⟨v,ha,hy,ho,hr,hg,ht',hw,rfl,ca,cy,co,cr,cg,UH,cw⟩,U1⟩
 ·have e1:s.nG i j=3:=by simp[af.nG,hk]
  have e2:s.tX i j=s.t:=by simp[af.tX,hk]
  have e3:bI s.t j=3:=by simp[bI,hk]
  rw[e1,e2]
  rw[e3]at hget
  clear e1 e2 e3 hk
  simp only[ptr]at*
  go_enter Tryz.func52,Tryz.ntmps52
  go_wp2_with(go_at_call 81;refine Calls.mono hget ?_;rintro e w1 ⟨rfl,rfl⟩)
  go_ret
  exact⟨rfl,_,hc0,U0⟩
def af.tY(s:af)(i j:Int):Bool:=bY s.t i&&bY s.t j&&decide (aB s.t i=aB s.t j)
def af.xN(s:af)(i j:Int):Int:=if bY s.t i&&bY s.t j then 0 else 3
theorem MQ(pc:Nat)(L:aX)(s:af)(i j:Int)(w:World)(h:Hp)(hi:In w h)(hc:ah pc L s h):
  Calls Tryz.prog 107 #[ptr pc, .int .i64 i, .int .i64 j] w fun e w'=>
   e= .returned (.tuple #[.bool (s.tY i j), .int .i64 (s.xN i j)])/\aj h h w w':=by
 obtain⟨v,ha,hy,ho,hr,hg,ht,hw,rfl,ca,cy,co,cr,cg,ct,cw⟩:=hc
 have U0:=aj.refl hi
 obtain⟨p1,p2,p3,p4,p5,p6⟩:=aS (In.core (x:=[]) hi)
 have hget:=fun i=>ku L.pt s.t i _ ht (In.table (x:=[]) hi) ct
 have vW:=hget i
 have Gy:=hget j
 clear p1 p2 p3 p4 p5 hget
 by_cases hk:bY s.t i=true
 ·have e3:bI s.t i=0:=by simp[bI,hk]
  rw[e3]at vW
  by_cases hk2:bY s.t j=true
  ·have e4:bI s.t j=0:=by simp[bI,hk2]
   rw[e4]at Gy
   have e1:s.tY i j=decide (aB s.t i=aB s.t j):=by simp[af.tY,hk,hk2]
   have e2:s.xN i j=0:=by simp[af.xN,hk,hk2]
   rw[e1,e2]
   clear e1 e2 e3 e4 hk hk2
   generalize aB s.t i=x1 at*
   generalize aB s.t j=x2 at*
   simp only[ptr]at*
   go_enter Tryz.func107,Tryz.ntmps107
   go_wp2_with(first|(go_at_call 81;with_reducible refine Calls.mono vW ?_;rintro e w1 ⟨rfl,rfl⟩)|(go_at_call 81;with_reducible refine Calls.mono Gy ?_;rintro e w1 ⟨rfl,rfl⟩))
   go_ret2
   refine⟨?_,U0⟩
   simp[Bool.beq_eq_decide_eq]
  ·have e4:bI s.t j=3:=by simp[bI,hk2]
   rw[e4]at Gy
   have e1:s.tY i j=false:=by simp[af.tY,hk,hk2]
   have e2:s.xN i j=3:=by simp[af.xN,hk,hk2]
   rw[e1,e2]
   clear e1 e2 e3 e4 hk hk2
   generalize aB s.t i=x1 at*
   generalize aB s.t j=x2 at*
   simp only[ptr]at*
   go_enter Tryz.func107,Tryz.ntmps107
   go_wp2_with(first|(go_at_call 81;with_reducible refine Calls.mono vW ?_;rintro e w1 ⟨rfl,rfl⟩)|(go_at_call 81;with_reducible refine Calls.mono Gy ?_;rintro e w1 ⟨rfl,rfl⟩))
   go_ret2
   exact⟨rfl,U0⟩
 ·have e3:bI s.t i=3:=by simp[bI,hk]
  rw[e3]at vW
  have e1:s.tY i j=false:=by simp[af.tY,hk]
  have e2:s.xN i j=3:=by simp[af.xN,hk]
  rw[e1,e2]
  clear e1 e2 e3 hk
  generalize aB s.t i=x1 at*
  generalize aB s.t j=x2 at*
  generalize bI s.t j=x3 at*
  simp only[ptr]at*
  go_enter Tryz.func107,Tryz.ntmps107
  go_wp2_with(first|(go_at_call 81;with_reducible refine Calls.mono vW ?_;rintro e w1 ⟨rfl,rfl⟩)|(go_at_call 81;with_reducible refine Calls.mono Gy ?_;rintro e w1 ⟨rfl,rfl⟩))
  go_ret2
  exact⟨rfl,U0⟩
def af.Dp(s:af)(i:Int):Bool:=bY s.t i&&decide (aB s.t i=0)
theorem Pg(pc:Nat)(L:aX)(s:af)(i:Int)(w:World)(h:Hp)(hi:In w h)(hc:ah pc L s h):
  Calls Tryz.prog 108 #[ptr pc, .int .i64 i] w fun e w'=>
   e= .returned (.tuple #[.bool (s.Dp i), .int .i64 (bI s.t i)])/\aj h h w w':=by
 obtain⟨v,ha,hy,ho,hr,hg,ht,hw,rfl,ca,cy,co,cr,cg,ct,cw⟩:=hc
 have U0:=aj.refl hi
 obtain⟨p1,p2,p3,p4,p5,p6⟩:=aS (In.core (x:=[]) hi)
 have vW:=ku L.pt s.t i _ ht (In.table (x:=[]) hi) ct
 clear p1 p2 p3 p4 p5
 by_cases hk:bY s.t i=true
 ·have e3:bI s.t i=0:=by simp[bI,hk]
  have e1:s.Dp i=decide (aB s.t i=0):=by simp[af.Dp,hk]
  rw[e3]at vW
  rw[e1,e3]
  clear e1 e3 hk
  generalize aB s.t i=x1 at*
  simp only[ptr]at*
  go_enter Tryz.func108,Tryz.ntmps108
  go_wp2_with(go_at_call 81;with_reducible refine Calls.mono vW ?_;rintro e w1 ⟨rfl,rfl⟩)
  go_ret2
  refine⟨?_,U0⟩
  simp[Bool.beq_eq_decide_eq]
 ·have e3:bI s.t i=3:=by simp[bI,hk]
  have e1:s.Dp i=false:=by simp[af.Dp,hk]
  rw[e3]at vW
  rw[e1,e3]
  clear e1 e3 hk
  generalize aB s.t i=x1 at*
  simp only[ptr]at*
  go_enter Tryz.func108,Tryz.ntmps108
  go_wp2_with(go_at_call 81;with_reducible refine Calls.mono vW ?_;rintro e w1 ⟨rfl,rfl⟩)
  go_ret2
  exact⟨rfl,U0⟩
end Go.Proofs.YtibemcgdmembeaaGreat
namespace Go.Proofs.YtibemcgdmembeaaGreat
open Go.RowKit
def af.eX(s:af)(p c:Int):Bool:=decide (0<=p/\0<=c/\p<=s.C.largest/\c<=s.C.largest-p)
theorem Jd(pc:Nat)(L:aX)(s:af)(p c:Int)(w:World)(v:Value)(hl0:0<=s.C.largest)(hl1:s.C.largest<=64)(hc:w.heap[pc]? =some (bG L s v)):
  Calls Tryz.prog 82 #[ptr pc, .int .i64 p, .int .i64 c] w fun e w'=>e= .returned (.bool (s.eX p c))/\w=w':=by
 obtain⟨c0,c1,c2,c3,c4,c5,c6,c7,c8,c9,c10,c11,c12⟩:=Gz hc
 clear c0 c1 c2 c3 c4 c5 c6 c7 c9 c10 c11 c12 hc
 simp only[ptr]
 by_cases h1:0<=p
 ·by_cases h2:0<=c
  ·by_cases h3:p<=s.C.largest
   ·have hw:IntKind.i64.wrap (s.C.largest-p)=s.C.largest-p:=IntWalk.i64_in _ (by omega)
    by_cases h4:c<=s.C.largest-p
    ·have e:s.eX p c=true:=by simp[af.eX];omega
     rw[e]
     clear e
     go_enter Tryz.func82,Tryz.ntmps82
     go_wp2
     go_ret
     exact⟨rfl,rfl⟩
    ·have e:s.eX p c=false:=by simp[af.eX];omega
     rw[e]
     clear e
     go_enter Tryz.func82,Tryz.ntmps82
     go_wp2
     go_ret
     exact⟨rfl,rfl⟩
   ·have e:s.eX p c=false:=by simp[af.eX];omega
    rw[e]
    clear e
    go_enter Tryz.func82,Tryz.ntmps82
    go_wp2
    go_ret
    exact⟨rfl,rfl⟩
  ·have e:s.eX p c=false:=by simp[af.eX];omega
   rw[e]
   clear e
   go_enter Tryz.func82,Tryz.ntmps82
   go_wp2
   go_ret
   exact⟨rfl,rfl⟩
 ·have e:s.eX p c=false:=by simp[af.eX];omega
  rw[e]
  clear e
  go_enter Tryz.func82,Tryz.ntmps82
  go_wp2
  go_ret
  exact⟨rfl,rfl⟩
def af.kept(s:af):Int:=if s.aG then s.y.ou-s.copied else 0
def af.qK(s:af)(n:Int):Bool:=decide (s.kept<=s.y.room-n)
theorem aJ.WF.bounds{y:aJ}(h:y.WF):0<=y.ou/\y.ou<=1048576/\0<=y.cu/\y.cu<=1048576/\0<=y.room/\y.room<=1048576/\0<=y.cf/\y.cf<=2097152:=by
 unfold aJ.WF at h
 unfold aJ.room aJ.ou aJ.cu aJ.cf
 split<;>omega
theorem aJ.WF.at{y:aJ}(h:y.WF)(n:Int):0<=y.di n/\y.di n<=4194304:=by
 have:=h.bounds
 unfold aJ.di
 split<;>omega
theorem MR(pc:Nat)(L:aX)(s:af)(n:Int)(w:World)(h:Hp)(hi:In w h)(hc:ah pc L s h)(h1:0<=n)(h2:n<=1048576)(h3:0<=s.copied)(h4:s.copied<=1048576):
  Calls Tryz.prog 83 #[ptr pc, .int .i64 n] w fun e w'=>e= .returned (.bool (s.qK n))/\aj h h w w':=by
 obtain⟨v,ha,hy,ho,hr,hg,ht,hw,rfl,ca,cy,co,cr,cg,ct,cw⟩:=hc
 have U0:=aj.refl hi
 obtain⟨p1,p2,p3,p4,p5,p6⟩:=aS (In.core (x:=[]) hi)
 obtain⟨q1,q2,q3,q4,q5,q6⟩:=iP (In.core (x:=[]) hi)
 have hleft:=fun W (oz:In W hy)=>DR L.py s.y W hy oz cy
 have hroom:=fun W (oz:In W hy)=>DN L.py s.y W hy oz cy
 obtain⟨b1,b2,b3,b4,b5,b6,b7,b8⟩:=aJ.WF.bounds cy.2
 have hw2:IntKind.i64.wrap (s.y.room-n)=s.y.room-n:=IntWalk.i64_in _ (by omega)
 have hw3:IntKind.i64.wrap (s.y.ou-s.copied)=s.y.ou-s.copied:=IntWalk.i64_in _ (by omega)
 clear p1 p3 p4 p5 p6 q1 q2 q4 q6
 simp only[ptr]at*
 cases hm:s.aG
 ·have e1:s.qK n=decide (n<=s.y.room):=by simp[af.qK,af.kept,hm]
  rw[hm]at q3
  rw[e1]
  clear e1 hm
  go_enter Tryz.func83,Tryz.ntmps83
  go_wp2_with(go_at_call 126;refine Calls.mono (hroom _ (In.fG (x:=[]) hi)) ?_;rintro e w1 ⟨rfl,u1⟩;have U1:=aj.fG (x:=[]) U0 u1)
  go_ret
  exact⟨rfl,U1⟩
 ·have e1:s.qK n=decide (s.y.ou-s.copied<=s.y.room-n):=by simp[af.qK,af.kept,hm]
  rw[hm]at q3
  rw[e1]
  clear e1 hm
  go_enter Tryz.func83,Tryz.ntmps83
  go_wp2
  have V_:=U0.drew'
  have hSd:(w.drew).cell? ⟨pc,14,none⟩=some (.pointer (some ⟨L.py,0,none⟩))/\ (w.drew).cell? ⟨pc,23,none⟩=some (.int .i64 s.copied):=⟨p2,q5⟩
  go_region_held3 (fun w'=>w'.cell? ⟨pc,14,none⟩=some (.pointer (some ⟨L.py,0,none⟩))/\w'.cell? ⟨pc,23,none⟩=some (.int .i64 s.copied))
   (first|exact hS1|exact hSd|go_keep)
   (first|(go_at_call 121;refine Calls.mono (hleft _ (In.fG (x:=[]) (aj.au V_))) ?_;rintro e w1 ⟨rfl,u1⟩;have U1:=aj.fG (x:=[]) V_ u1;have hS1:w1.cell? ⟨pc,14,none⟩=some (.pointer (some ⟨L.py,0,none⟩))/\w1.cell? ⟨pc,23,none⟩=some (.int .i64 s.copied):=⟨cell_of (In.core (x:=[]) (aj.au U1)) 14,cell_of (In.core (x:=[]) (aj.au U1)) 23⟩))
  go_wp2_with(go_at_call 126;refine Calls.mono (hroom _ (In.fG (x:=[]) (aj.au U1))) ?_;rintro e w2 ⟨rfl,u2⟩;have U2:=aj.fG (x:=[]) U1 u2)
  go_ret
  exact⟨rfl,U2⟩
theorem EW(pc:Nat)(L:aX)(s:af)(i:Int)(w:World)(h:Hp)(hi:In w h)(hc:ah pc L s h):
  Calls Tryz.prog 109 #[ptr pc, .int .i64 i] w fun e w'=>
   e= .returned (.tuple #[.int .i64 (s.iO i).ptrs, .int .i64 ((s.iO i).size-(s.iO i).ptrs), .int .i64 (s.fP i)])/\ ∃h',ah pc L s h'/\aj h h' w w':=by
 have ho:=mJ pc L s i w h hi hc
 have hgood:(s.iO i).Good:=by unfold af.iO;split;exact dU _;exact AY
 obtain⟨g1,g2,g3,g4,g5,g6,g7⟩:=hgood
 by_cases he:s.fP i=0
 ·rw[he]at ho⊢
  generalize s.iO i=H at*
  have hw2:IntKind.i64.wrap (H.size-H.ptrs)=H.size-H.ptrs:=IntWalk.i64_in _ (by omega)
  clear he g7
  simp only[ptr,aF]at*
  go_enter Tryz.func109,Tryz.ntmps109
  go_wp2_with(go_at_call 99;refine Calls.mono ho ?_;rintro e w1 ⟨rfl,h',c1,u1⟩)
  go_quiet (fail)
  go_wp2
  go_ret3
  exact⟨rfl,h',c1,(u1.skip' _).drewN' nq⟩
 ·have e1:s.iO i=hd0:=by simp[af.iO,he]
  rw[e1]at ho⊢
  have hne:(s.fP i !=0)=true:=by simpa using he
  generalize s.fP i=E at*
  clear e1 g1 g2 g3 g4 g5 g6 g7
  simp only[ptr,aF,hd0]at*
  go_enter Tryz.func109,Tryz.ntmps109
  go_wp2_with(go_at_call 99;refine Calls.mono ho ?_;rintro e w1 ⟨rfl,h',c1,u1⟩)
  go_ret3
  exact⟨rfl,h',c1,u1.skip' _⟩
end Go.Proofs.YtibemcgdmembeaaGreat
namespace Go.Proofs.YtibemcgdmembeaaGreat
open Go.RowKit
def af.kJ(s:af)(i n:Int):Bool:=decide (0<=n/\n<(s.iO i).size-(s.iO i).ptrs)
def af.jU(s:af)(i n:Int):Int:=place (aB s.t i) ((s.iO i).ptrs+n)
def af.jf(s:af)(i n:Int):Int:=if s.fP i=0 then(if s.kJ i n then nC s.ws.length (s.jU i n) 1 else 5)else s.fP i
def af.tZ(s:af)(i n:Int):Int:=if s.fP i=0/\s.kJ i n=true then oU s.ws (s.jU i n)else 0
def af.writeW(s:af)(i n x:Int):List Int:=if s.fP i=0/\s.kJ i n=true then iQ s.ws (s.jU i n) x else s.ws
theorem af.pI(s:af)(i:Int):(s.iO i).Good:=by unfold af.iO;split;exact dU _;exact AY
theorem MS(pc:Nat)(L:aX)(s:af)(i n:Int)(w:World)(h:Hp)(hi:In w h)(hc:ah pc L s h):
  Calls Tryz.prog 106 #[ptr pc, .int .i64 i, .int .i64 n] w fun e w'=>
   e= .returned (.tuple #[.int .u64 (s.tZ i n), .int .i64 (s.jf i n)])/\ ∃h',ah pc L s h'/\aj h h' w w':=by
 have ho:=mJ pc L s i w h hi hc
 obtain⟨g1,g2,g3,g4,g5,g6,g7⟩:=s.pI i
 by_cases he:s.fP i=0
 ·by_cases hk:s.kJ i n=true
  ·have e1:s.jf i n=nC s.ws.length (s.jU i n) 1:=by simp[af.jf,he,hk]
   have e2:s.tZ i n=oU s.ws (s.jU i n):=by simp[af.tZ,he,hk]
   have e3:s.jU i n=place (aB s.t i) ((s.iO i).ptrs+n):=rfl
   rw[e1,e2,e3]
   simp only[af.kJ,decide_eq_true_eq]at hk
   obtain⟨k1,k2⟩:=hk
   rw[he]at ho
   clear e1 e2 e3 he
   generalize aB s.t i=j at*
   generalize s.iO i=H at*
   have hw2:IntKind.i64.wrap (H.size-H.ptrs)=H.size-H.ptrs:=IntWalk.i64_in _ (by omega)
   have hw3:IntKind.i64.wrap (H.ptrs+n)=H.ptrs+n:=IntWalk.i64_in _ (by omega)
   have hl:=fun W h (oz:In W h) (ha:dZ L.pa s.ws h)=>yJ L.pa s.ws j (H.ptrs+n) W h oz ha
   clear g7
   simp only[ptr,aF]at*
   go_enter Tryz.func106,Tryz.ntmps106
   go_wp2_with(go_at_call 99;refine Calls.mono ho ?_;rintro e w1 ⟨rfl,h',⟨v,ha,hy,ho',hr,hg,ht,hw,rfl,ca,cy,co,cr,cg,ct,cw⟩,u1⟩;have U1:=aj.box (x:=[]) u1 (.cells (aF H) 92 (0,0));obtain⟨p1,p2,p3,p4,p5,p6⟩:=aS U1.au.core;clear p2 p3 p4 p5 p6;simp only[ptr,aF]at p1)
   have We:=U1.drew'
   have hSd:(w1.alloc (.cells #[.int .i64 H.size, .int .i64 H.ptrs, .int .i64 H.nZ, .int .i64 H.parity, .bool H.dh, .bool H.aY, .bool H.old] 92 (0,0))).drew.cell? ⟨pc,13,none⟩=some (.pointer (some ⟨L.pa,0,none⟩))/\ (w1.alloc (.cells #[.int .i64 H.size, .int .i64 H.ptrs, .int .i64 H.nZ, .int .i64 H.parity, .bool H.dh, .bool H.aY, .bool H.old] 92 (0,0))).drew.cell? ⟨w1.heap.size,1,none⟩=some (.int .i64 H.ptrs):=⟨p1,cell_of U1.au.head 1⟩
   go_region_held3 (fun w'=>w'.cell? ⟨pc,13,none⟩=some (.pointer (some ⟨L.pa,0,none⟩))/\w'.cell? ⟨w1.heap.size,1,none⟩=some (.int .i64 H.ptrs))
    (first|exact hS3|exact hSd|go_keep)
    (first|(go_at_call 62;refine Calls.mono (hl _ _ (aj.au We).arena ca) ?_;rintro e w3 ⟨rfl,ha',ca',u3⟩;have U3:=aj.arena (x:=[_]) We u3;have hS3:w3.cell? ⟨pc,13,none⟩=some (.pointer (some ⟨L.pa,0,none⟩))/\w3.cell? ⟨w1.heap.size,1,none⟩=some (.int .i64 H.ptrs):=⟨cell_of U3.au.core 13,cell_of U3.au.head 1⟩))
   go_wp2
   go_ret2
   exact⟨rfl,_,⟨v,ha',hy,ho',hr,hg,ht,hw,rfl,ca',cy,co,cr,cg,ct,cw⟩,U3.drop1⟩
  ·have e1:s.jf i n=5:=by simp[af.jf,he,hk]
   have e2:s.tZ i n=0:=by simp[af.tZ,hk]
   rw[e1,e2]
   simp only[af.kJ,decide_eq_true_eq]at hk
   rw[he]at ho
   clear e1 e2 he
   generalize aB s.t i=j at*
   generalize s.iO i=H at*
   have hw2:IntKind.i64.wrap (H.size-H.ptrs)=H.size-H.ptrs:=IntWalk.i64_in _ (by omega)
   by_cases k1:0<=n
   ·have k2:H.size-H.ptrs<=n:=by omega
    clear g7 hk
    simp only[ptr,aF]at*
    go_enter Tryz.func106,Tryz.ntmps106
    go_wp2_with(go_at_call 99;refine Calls.mono ho ?_;rintro e w1 ⟨rfl,h',c1,u1⟩)
    go_ret2
    exact⟨rfl,h',c1,u1.skip' _⟩
   ·clear g7 hk
    simp only[ptr,aF]at*
    go_enter Tryz.func106,Tryz.ntmps106
    go_wp2_with(go_at_call 99;refine Calls.mono ho ?_;rintro e w1 ⟨rfl,h',c1,u1⟩)
    go_ret2
    exact⟨rfl,h',c1,u1.skip' _⟩
 ·have e1:s.jf i n=s.fP i:=by simp[af.jf,he]
  have e2:s.tZ i n=0:=by simp[af.tZ,he]
  have hne:(s.fP i !=0)=true:=by simpa using he
  rw[e1,e2]
  generalize s.iO i=H at*
  generalize s.fP i=E at*
  clear e1 e2 g1 g2 g3 g4 g5 g6 g7
  simp only[ptr,aF]at*
  go_enter Tryz.func106,Tryz.ntmps106
  go_wp2_with(go_at_call 99;refine Calls.mono ho ?_;rintro e w1 ⟨rfl,h',c1,u1⟩)
  go_ret2
  exact⟨rfl,h',c1,u1.skip' _⟩
theorem Je(pc:Nat)(L:aX)(s:af)(i n x:Int)(w:World)(h:Hp)(hi:In w h)(hc:ah pc L s h)(hx:C_ x):
  Calls Tryz.prog 51 #[ptr pc, .int .i64 i, .int .i64 n, .int .u64 x] w fun e w'=>
   e= .returned (.int .i64 (s.jf i n))/\ ∃h',ah pc L {s with ws:=s.writeW i n x} h'/\aj h h' w w':=by
 have ho:=mJ pc L s i w h hi hc
 obtain⟨g1,g2,g3,g4,g5,g6,g7⟩:=s.pI i
 by_cases he:s.fP i=0
 ·by_cases hk:s.kJ i n=true
  ·have e1:s.jf i n=nC s.ws.length (s.jU i n) 1:=by simp[af.jf,he,hk]
   have e2:s.writeW i n x=iQ s.ws (s.jU i n) x:=by simp[af.writeW,he,hk]
   have e3:s.jU i n=place (aB s.t i) ((s.iO i).ptrs+n):=rfl
   rw[e1,e2,e3]
   simp only[af.kJ,decide_eq_true_eq]at hk
   obtain⟨k1,k2⟩:=hk
   rw[he]at ho
   clear e1 e2 e3 he
   generalize aB s.t i=j at*
   generalize s.iO i=H at*
   have hw2:IntKind.i64.wrap (H.size-H.ptrs)=H.size-H.ptrs:=IntWalk.i64_in _ (by omega)
   have hw3:IntKind.i64.wrap (H.ptrs+n)=H.ptrs+n:=IntWalk.i64_in _ (by omega)
   have hl:=fun W h (oz:In W h) (ha:dZ L.pa s.ws h)=>sK L.pa s.ws j (H.ptrs+n) x W h oz ha hx
   clear g7
   simp only[ptr,aF]at*
   go_enter Tryz.func51,Tryz.ntmps51
   go_wp2_with(go_at_call 99;refine Calls.mono ho ?_;rintro e w1 ⟨rfl,h',⟨v,ha,hy,ho',hr,hg,ht,hw,rfl,ca,cy,co,cr,cg,ct,cw⟩,u1⟩;have U1:=aj.box (x:=[]) u1 (.cells (aF H) 92 (0,0));obtain⟨p1,p2,p3,p4,p5,p6⟩:=aS U1.au.core;clear p2 p3 p4 p5 p6;simp only[ptr,aF]at p1)
   have We:=U1.drew'
   refine eP 10 (by kernel_rfl) (by kernel_rfl) fun w2 hw2=> ?_
   subst hw2
   simp only[List.take_succ_cons,List.take_zero,List.drop_succ_cons,List.drop_zero]
   repeat(refine wpStill_step (fun K hK=> ?_);have HK:=Lib.hid hK;clear hK;go_simp;refine HK.out _ ?_;clear HK K)
   refine wpStill_nil ?_
   go_wp2_with(go_at_call 102;refine Calls.mono (hl _ _ (aj.au We).arena ca) ?_;rintro e w3 ⟨rfl,ha',ca',u3⟩;have U3:=aj.arena (x:=[_]) We u3)
   go_ret
   exact⟨rfl,_,⟨v,ha',hy,ho',hr,hg,ht,hw,rfl,ca',cy,co,cr,cg,ct,cw⟩,U3.drop1⟩
  ·have e1:s.jf i n=5:=by simp[af.jf,he,hk]
   have e2:s.writeW i n x=s.ws:=by simp[af.writeW,hk]
   rw[e1,e2]
   simp only[af.kJ,decide_eq_true_eq]at hk
   rw[he]at ho
   clear e1 e2 he
   generalize aB s.t i=j at*
   generalize s.iO i=H at*
   have hw2:IntKind.i64.wrap (H.size-H.ptrs)=H.size-H.ptrs:=IntWalk.i64_in _ (by omega)
   by_cases k1:0<=n
   ·have k2:H.size-H.ptrs<=n:=by omega
    clear g7 hk
    simp only[ptr,aF]at*
    go_enter Tryz.func51,Tryz.ntmps51
    go_wp2_with(go_at_call 99;refine Calls.mono ho ?_;rintro e w1 ⟨rfl,h',c1,u1⟩)
    go_ret
    exact⟨rfl,h',c1,u1.skip' _⟩
   ·clear g7 hk
    simp only[ptr,aF]at*
    go_enter Tryz.func51,Tryz.ntmps51
    go_wp2_with(go_at_call 99;refine Calls.mono ho ?_;rintro e w1 ⟨rfl,h',c1,u1⟩)
    go_ret
    exact⟨rfl,h',c1,u1.skip' _⟩
 ·have e1:s.jf i n=s.fP i:=by simp[af.jf,he]
  have e2:s.writeW i n x=s.ws:=by simp[af.writeW,he]
  have hne:(s.fP i !=0)=true:=by simpa using he
  rw[e1,e2]
  generalize s.iO i=H at*
  generalize s.fP i=E at*
  clear e1 e2 g1 g2 g3 g4 g5 g6 g7
  simp only[ptr,aF]at*
  go_enter Tryz.func51,Tryz.ntmps51
  go_wp2_with(go_at_call 99;refine Calls.mono ho ?_;rintro e w1 ⟨rfl,h',c1,u1⟩)
  go_ret
  exact⟨rfl,h',c1,u1.skip' _⟩
def af.now(s:af)(i:Int):Int:=if i≠0/\s.y.dI i=true then bH s.ws i else i
theorem oG(pc:Nat)(L:aX)(s:af)(i:Int)(w:World)(h:Hp)(hi:In w h)(hc:ah pc L s h)(hb:I64 i):
  Calls Tryz.prog 78 #[ptr pc, .int .i64 i] w fun e w'=>
   e= .returned (.int .i64 (s.now i))/\ ∃h',ah pc L s h'/\aj h h' w w':=by
 have hc0:=hc
 obtain⟨v,ha,hy,ho,hr,hg,ht,hw,rfl,ca,cy,co,cr,cg,ct,cw⟩:=hc
 have U0:=aj.refl hi
 obtain⟨p1,p2,p3,p4,p5,p6⟩:=aS (In.core (x:=[]) hi)
 have jg:=qX L.py s.y i w hy (In.fG (x:=[]) hi) cy hb
 have EX:=fun W h (oz:In W h) (ha:dZ L.pa s.ws h)=>Rw L.pa s.ws i W h oz ha
 clear p3 p4 p5 p6
 simp only[ptr]at*
 by_cases hz:i=0
 ·have e1:s.now i=i:=by simp[af.now,hz]
  have hq:(i==0)=true:=by simpa using hz
  rw[e1]
  clear e1 hz
  go_enter Tryz.func78,Tryz.ntmps78
  go_wp2
  go_ret
  exact⟨rfl,_,hc0,U0⟩
 ·have hq:(i==0)=false:=by simpa using hz
  cases hf:s.y.dI i
  ·have e1:s.now i=i:=by simp[af.now,hf]
   rw[e1]
   rw[hf]at jg
   clear e1 hz hf
   go_enter Tryz.func78,Tryz.ntmps78
   go_wp2_with(go_at_call 44;refine Calls.mono jg ?_;rintro e w1 ⟨rfl,u1⟩;have U1:=aj.fG (x:=[]) U0 u1)
   go_ret
   exact⟨rfl,_,⟨v,ha,hy,ho,hr,hg,ht,hw,rfl,ca,cy,co,cr,cg,ct,cw⟩,U1⟩
  ·have e1:s.now i=bH s.ws i:=by simp[af.now,hf,hz]
   rw[e1]
   rw[hf]at jg
   clear e1 hz hf
   go_enter Tryz.func78,Tryz.ntmps78
   go_wp2_with(first|(go_at_call 44;refine Calls.mono jg ?_;rintro e w1 ⟨rfl,u1⟩;have U1:=aj.fG (x:=[]) U0 u1;obtain⟨p1,p2,p3,p4,p5,p6⟩:=aS (In.core (x:=[]) (aj.au U1));simp only[ptr]at p1;clear p2 p3 p4 p5 p6)|(go_at_call 125;refine Calls.mono (EX _ _ (In.arena (x:=[]) (aj.au U1)) ca) ?_;rintro e w2 ⟨rfl,ha',ca',u2⟩;have U2:=aj.arena (x:=[]) U1 u2))
   go_ret
   exact⟨rfl,_,⟨v,ha',hy,ho,hr,hg,ht,hw,rfl,ca',cy,co,cr,cg,ct,cw⟩,U2⟩
end Go.Proofs.YtibemcgdmembeaaGreat
namespace Go.Proofs.YtibemcgdmembeaaGreat
open Go.RowKit
def af.sN(s:af)(i:Int):Bool:= !decide (i=0)&& (ag s.ws i).old&& !(ag s.ws i).aY
def af.note(s:af)(i:Int):af:=if s.sN i then {s with ws:=iQ s.ws i {ag s.ws i with aY:=true}.enc,r:=s.r.add i}else s
theorem D9(pc:Nat)(L:aX)(s:af)(i:Int)(w:World)(h:Hp)(hi:In w h)(hc:ah pc L s h)(hb:I64 i):
  Calls Tryz.prog 103 #[ptr pc, .int .i64 i] w fun e w'=>
   e= .returned (.tuple #[])/\ ∃h',ah pc L (s.note i) h'/\aj h h' w w':=by
 by_cases hz:i=0
 ·have e1:s.note i=s:=by simp[af.note,af.sN,hz]
  have hq:(i==0)=true:=by simpa using hz
  rw[e1]
  clear e1 hz
  simp only[ptr]at*
  go_enter Tryz.func103,Tryz.ntmps103
  go_wp2
  refine bodyPost_ret (results_none rfl _ _ _) rfl ?_
  exact⟨rfl,_,hc,aj.refl hi⟩
 ·have hq:(i==0)=false:=by simpa using hz
  have hh:=ry pc L s i w h hi hc
  have hG:(ag s.ws i).Good:=dU _
  by_cases hk:(ag s.ws i).old=true/\ (ag s.ws i).aY=false
  ·have e1:s.note i={s with ws:=iQ s.ws i {ag s.ws i with aY:=true}.enc,r:=s.r.add i}:=by simp[af.note,af.sN,hz,hk]
   rw[e1]
   obtain⟨k1,k2⟩:=hk
   have hset:=fun W h (oz:In W h) (hc:ah pc L s h)=>pG pc L s i {ag s.ws i with aY:=true} hG W h oz hc
   have hadd:=fun W h (oz:In W h) (hr:uA L.pr s.r h)=>Q_ L.pr s.r i W h oz hr hb
   generalize ag s.ws i=H at*
   obtain⟨a1,a2,a3,a4,a5,a6,a7⟩:=H
   simp only at k1 k2
   subst k1 k2
   clear e1 hz hi hG
   simp only[ptr,aF]at*
   go_enter Tryz.func103,Tryz.ntmps103
   go_wp2_with(first|(go_at_call 110;refine Calls.mono hh ?_;rintro e w1 ⟨rfl,h1,c1,u1⟩)|(go_at_call 140;have U1:=u1.alloc' (.cells (aF ⟨a1,a2,a3,a4,a5,true,true⟩) 92 (0,0));refine Calls.mono (hset _ _ U1.au.tail c1) ?_;rintro e w2 ⟨rfl,h2,⟨v,ha,hy,ho,hr,hg,ht,hw,rfl,ca,cy,co,cr,cg,ct,cw⟩,u2⟩;have U2:=(U1.under u2).drop1;obtain⟨p1,p2,p3,p4,p5,p6⟩:=aS (In.core (x:=[]) U2.au);clear p1 p2 p3 p5 p6;simp only[ptr]at p4)|(go_at_call 143;refine Calls.mono (hadd _ _ (In.rem (x:=[]) U2.au) cr) ?_;rintro e w3 ⟨rfl,hr',Rx,u3⟩;have U3:=aj.rem (x:=[]) U2 u3))
   go_end0
   exact⟨rfl,_,⟨v,ha,hy,ho,hr',hg,ht,hw,rfl,ca,cy,co,Rx,cg,ct,cw⟩,U3⟩
  ·have e1:s.note i=s:=by
    have:s.sN i=false:=by
     simp only[af.sN]
     cases h1:(ag s.ws i).old<;>cases h2:(ag s.ws i).aY<;>simp_all
    simp[af.note,this]
   rw[e1]
   clear e1 hz hG
   generalize ag s.ws i=H at*
   obtain⟨a1,a2,a3,a4,a5,a6,a7⟩:=H
   simp only at hk
   cases a7
   ·clear hk
    simp only[ptr,aF]at*
    go_enter Tryz.func103,Tryz.ntmps103
    go_wp2_with(go_at_call 110;refine Calls.mono hh ?_;rintro e w1 ⟨rfl,h1,c1,u1⟩)
    go_end0
    exact⟨rfl,_,c1,u1.skip' _⟩
   ·have k2:a6=true:=by simpa using hk
    subst k2
    clear hk
    simp only[ptr,aF]at*
    go_enter Tryz.func103,Tryz.ntmps103
    go_wp2_with(go_at_call 110;refine Calls.mono hh ?_;rintro e w1 ⟨rfl,h1,c1,u1⟩)
    go_end0
    exact⟨rfl,_,c1,u1.skip' _⟩
def af.qL(s:af)(i:Int):Bool:= !decide (i=0)&&decide (s.phase=1)&& !decide ((ag s.ws (s.now i)).parity=s.parity)
def af.mark(s:af)(i:Int):af:=if s.qL i then {s with ws:=iQ s.ws (s.now i) {ag s.ws (s.now i)with parity:=s.parity,dh:=true}.enc,g:=s.g.push (s.now i)}else s
theorem af.xO(s:af){i:Int}(h:I64 i):I64 (s.now i):=by
 unfold af.now
 split
 ·unfold bH
  split
  ·exact I64.wrap _
  ·exact I64.small (by decide) (by decide)
 ·exact h
theorem yK(pc:Nat)(L:aX)(s:af)(i:Int)(w:World)(h:Hp)(hi:In w h)(hc:ah pc L s h)(hb:I64 i)(hpar:s.parity=0∨s.parity=1):
  Calls Tryz.prog 101 #[ptr pc, .int .i64 i] w fun e w'=>
   e= .returned (.tuple #[])/\ ∃h',ah pc L (s.mark i) h'/\aj h h' w w':=by
 by_cases hz:i=0
 ·have e1:s.mark i=s:=by simp[af.mark,af.qL,hz]
  have hq:(i==0)=true:=by simpa using hz
  rw[e1]
  clear e1 hz hpar
  simp only[ptr]at*
  go_enter Tryz.func101,Tryz.ntmps101
  go_wp2
  refine bodyPost_ret (results_none rfl _ _ _) rfl ?_
  exact⟨rfl,_,hc,aj.refl hi⟩
 ·have hq:(i==0)=false:=by simpa using hz
  have hc0:=hc
  obtain⟨v,ha,hy,ho,hr,hg,ht,hw,rfl,ca,cy,co,cr,cg,ct,cw⟩:=hc
  obtain⟨q1,q2,q3,q4,q5,q6⟩:=iP (In.core (x:=[]) hi)
  clear q1 q3 q4 q5 q6
  by_cases hp:s.phase=1
  ·have dQ:=oG pc L s i w _ hi hc0 hb
   have hh:=fun W h (oz:In W h) (hc:ah pc L s h)=>ry pc L s (s.now i) W h oz hc
   have hG:(ag s.ws (s.now i)).Good:=dU _
   have hjb:=s.xO hb
   by_cases hk:(ag s.ws (s.now i)).parity=s.parity
   ·have e1:s.mark i=s:=by simp[af.mark,af.qL,hk]
    rw[e1]
    rw[hp]at q2
    generalize s.now i=j at*
    generalize ag s.ws j=H at*
    have hk':(H.parity==s.parity)=true:=by simpa using hk
    clear e1 hz hG hpar hk hp
    simp only[ptr,aF]at*
    go_enter Tryz.func101,Tryz.ntmps101
    go_wp2_with(first|(go_at_call 78;refine Calls.mono dQ ?_;rintro e w1 ⟨rfl,h1,c1,u1⟩)|(go_at_call 110;refine Calls.mono (hh _ _ u1.au c1) ?_;rintro e w2 ⟨rfl,h2,⟨v2,ha2,hy2,ho2,hr2,hg2,ht2,hw2,rfl,ca2,UI,X_,Ya,Yb,Yc,Yd⟩,u2⟩;have U2:=aj.box (x:=[]) (u1.trans u2) (.cells (aF H) 92 (0,0));obtain⟨q1,q2,q3,q4,q5,q6⟩:=iP U2.au.core;simp only[aF]at q1;clear q2 q3 q4 q5 q6))
    go_quiet (fail)
    go_wp2
    refine bodyPost_ret (results_none rfl _ _ _) rfl ?_
    exact⟨rfl,_,⟨v2,ha2,hy2,ho2,hr2,hg2,ht2,hw2,rfl,ca2,UI,X_,Ya,Yb,Yc,Yd⟩,(U2.drop1).drewN' nq⟩
   ·have e1:s.mark i={s with ws:=iQ s.ws (s.now i) {ag s.ws (s.now i)with parity:=s.parity,dh:=true}.enc,g:=s.g.push (s.now i)}:=by simp[af.mark,af.qL,hk,hp,hz]
    rw[e1]
    have hG2:Hd.Good {ag s.ws (s.now i)with parity:=s.parity,dh:=true}:=by
     obtain⟨g1,g2,g3,g4,g5,g6,g7⟩:=hG
     exact⟨g1,g2,g3,g4,g5,g6,hpar⟩
    have hset:=fun W h (oz:In W h) (hc:ah pc L s h)=>pG pc L s (s.now i) {ag s.ws (s.now i)with parity:=s.parity,dh:=true} hG2 W h oz hc
    have hpush:=fun W h (oz:In W h) (hr:lQ L.pg s.g h)=>DV L.pg s.g (s.now i) W h oz hr hjb
    rw[hp]at q2
    generalize s.now i=j at*
    generalize ag s.ws j=H at*
    have hk':(H.parity==s.parity)=false:=by simpa using hk
    obtain⟨a1,a2,a3,a4,a5,a6,a7⟩:=H
    clear e1 hz hG hG2 hpar hk hp
    simp only[ptr,aF]at*
    go_enter Tryz.func101,Tryz.ntmps101
    go_wp2_with(first|(go_at_call 78;refine Calls.mono dQ ?_;rintro e w1 ⟨rfl,h1,c1,u1⟩)|(go_at_call 110;refine Calls.mono (hh _ _ u1.au c1) ?_;rintro e w2 ⟨rfl,h2,⟨v2,ha2,hy2,ho2,hr2,hg2,ht2,hw2,rfl,ca2,UI,X_,Ya,Yb,Yc,Yd⟩,u2⟩;have U2:=aj.box (x:=[]) (u1.trans u2) (.cells (aF ⟨a1,a2,a3,a4,a5,a6,a7⟩) 92 (0,0));obtain⟨q1,q2,q3,q4,q5,q6⟩:=iP U2.au.core;simp only[aF]at q1;clear q2 q3 q4 q5 q6))
    go_quiet (fail)
    have q1':(World.drewN (w2.alloc (.cells #[.int .i64 a1, .int .i64 a2, .int .i64 a3, .int .i64 a4, .bool a5, .bool a6, .bool a7] 92 (0,0))) nq).cell? ⟨pc,19,none⟩=some (.int .i64 s.parity):=q1
    go_wp2_with(first|(go_at_call 140;have U3:=(((((u1.trans u2).alloc' (.cells (aF ⟨a1,a2,a3,a4,a5,a6,a7⟩) 92 (0,0))).drewN' nq)).store1 3 (.int .i64 s.parity)).store1 4 (.bool true);refine Calls.mono (hset _ _ U3.au.tail ⟨v2,ha2,hy2,ho2,hr2,hg2,ht2,hw2,rfl,ca2,UI,X_,Ya,Yb,Yc,Yd⟩) ?_;rintro e w4 ⟨rfl,h4,⟨v4,ha4,hy4,ho4,hr4,hg4,ht4,hw4,rfl,ca4,cy4,co4,cr4,cg4,ct4,cw4⟩,u4⟩;have U4:=(U3.under u4).drop1;obtain⟨p1,p2,p3,p4,p5,p6⟩:=aS (In.core (x:=[]) U4.au);clear p1 p2 p3 p4 p6;simp only[ptr]at p5)|(go_at_call 141;refine Calls.mono (hpush _ _ (In.dh (x:=[]) U4.au) cg4) ?_;rintro e w5 ⟨rfl,hg5,yL,u5⟩;have U5:=aj.dh (x:=[]) U4 u5))
    go_end0
    exact⟨rfl,_,⟨v4,ha4,hy4,ho4,hr4,hg5,ht4,hw4,rfl,ca4,cy4,co4,cr4,yL,ct4,cw4⟩,U5⟩
  ·have e1:s.mark i=s:=by simp[af.mark,af.qL,hp]
   have hp':(s.phase !=1)=true:=by simpa using hp
   rw[e1]
   clear e1 hz hp hpar
   simp only[ptr]at*
   go_enter Tryz.func101,Tryz.ntmps101
   go_wp2
   refine bodyPost_ret (results_none rfl _ _ _) rfl ?_
   exact⟨rfl,_,hc0,aj.refl hi⟩
end Go.Proofs.YtibemcgdmembeaaGreat
namespace Go.Proofs.YtibemcgdmembeaaGreat
open Go.RowKit
def af.jF(s:af)(i n:Int):Bool:=decide (0<=n/\n<(s.iO i).ptrs)
def af.jr(s:af)(i n k:Int):Int:=if s.fP i=0 then(if bY s.t k then(if s.jF i n then 0 else 5)else 3)else s.fP i
def af.put(s:af)(i n k:Int):af:={s with ws:=iQ s.ws (place (aB s.t i) n) (u64 (aB s.t k))}
def af.xP(s:af)(i n k:Int):af:=if s.y.isIn (aB s.t k)then(s.put i n k).note (aB s.t i)else s.put i n k
def af.set(s:af)(i n k:Int):af:=if s.jr i n k=0 then s.xP i n k else s
theorem Ph(pc:Nat)(L:aX)(s:af)(i n k:Int)(w:World)(h:Hp)(hi:In w h)(hc:ah pc L s h):
  Calls Tryz.prog 50 #[ptr pc, .int .i64 i, .int .i64 n, .int .i64 k] w fun e w'=>
   e= .returned (.int .i64 (s.jr i n k))/\ ∃h',ah pc L (s.set i n k) h'/\aj h h' w w':=by
 have ho:=mJ pc L s i w h hi hc
 have KQ:(∀x∈s.t,I64 x):=by obtain⟨v,ha,hy,ho',hr,hg,ht,hw,hh,ca,cy,co,cr,cg,ct,cw⟩:=hc;exact ct.nums
 have hget:=fun W h (oz:In W h) (ht:lH L.pt s.t h)=>ku L.pt s.t k W h oz ht
 have hkb:=wP KQ k
 have hib:=wP KQ i
 obtain⟨g1,g2,g3,g4,g5,g6,g7⟩:=s.pI i
 by_cases he:s.fP i=0
 case neg=>
  have e1:s.jr i n k=s.fP i:=by simp[af.jr,he]
  have e2:s.set i n k=s:=by simp[af.set,e1,he]
  have hne:(s.fP i !=0)=true:=by simpa using he
  rw[e1,e2]
  generalize s.iO i=H at*
  generalize s.fP i=E at*
  clear e1 e2 g1 g2 g3 g4 g5 g6 g7
  simp only[ptr,aF]at*
  go_enter Tryz.func50,Tryz.ntmps50
  go_wp2_with(go_at_call 99;refine Calls.mono ho ?_;rintro e w1 ⟨rfl,h',c1,u1⟩)
  go_ret
  exact⟨rfl,h',c1,u1.skip' _⟩
 by_cases hk:bY s.t k=true
 case neg=>
  have e1:s.jr i n k=3:=by simp[af.jr,he,hk]
  have e2:s.set i n k=s:=by simp[af.set,e1]
  rw[e1,e2]
  have e3:bI s.t k=3:=by simp[bI,hk]
  rw[he]at ho
  rw[e3]at hget
  clear e1 e2 e3 he hk
  generalize aB s.t i=j at*
  generalize s.iO i=H at*
  clear g1 g2 g3 g4 g5 g6 g7
  simp only[ptr,aF]at*
  go_enter Tryz.func50,Tryz.ntmps50
  go_wp2_with(first|(go_at_call 99;refine Calls.mono ho ?_;rintro e w1 ⟨rfl,h',⟨v,ha,hy,ho',hr,hg,ht,hw,rfl,ca,cy,co,cr,cg,ct,cw⟩,u1⟩;have U1:=aj.box (x:=[]) u1 (.cells (aF H) 92 (0,0));obtain⟨p1,p2,p3,p4,p5,p6⟩:=aS U1.au.core;clear p2 p3 p4 p5;simp only[ptr,aF]at p1 p6)|(go_at_call 81;refine Calls.mono (hget _ _ (aj.au U1).table ct) ?_;rintro e w2 ⟨rfl,rfl⟩))
  go_ret
  exact⟨rfl,_,⟨v,ha,hy,ho',hr,hg,ht,hw,rfl,ca,cy,co,cr,cg,ct,cw⟩,U1.drop1⟩
 have e3:bI s.t k=0:=by simp[bI,hk]
 rw[he]at ho
 rw[e3]at hget
 by_cases hn:s.jF i n=true
 case neg=>
  have e1:s.jr i n k=5:=by simp[af.jr,he,hk,hn]
  have e2:s.set i n k=s:=by simp[af.set,e1]
  rw[e1,e2]
  simp only[af.jF,decide_eq_true_eq]at hn
  clear e1 e2 e3 he hk
  generalize aB s.t i=j at*
  generalize s.iO i=H at*
  by_cases k1:0<=n
  ·have k2:H.ptrs<=n:=by omega
   clear g7 hn
   simp only[ptr,aF]at*
   go_enter Tryz.func50,Tryz.ntmps50
   go_wp2_with(first|(go_at_call 99;refine Calls.mono ho ?_;rintro e w1 ⟨rfl,h',⟨v,ha,hy,ho',hr,hg,ht,hw,rfl,ca,cy,co,cr,cg,ct,cw⟩,u1⟩;have U1:=aj.box (x:=[]) u1 (.cells (aF H) 92 (0,0));obtain⟨p1,p2,p3,p4,p5,p6⟩:=aS U1.au.core;clear p2 p3 p4 p5;simp only[ptr,aF]at p1 p6)|(go_at_call 81;refine Calls.mono (hget _ _ (aj.au U1).table ct) ?_;rintro e w2 ⟨rfl,rfl⟩))
   go_ret
   exact⟨rfl,_,⟨v,ha,hy,ho',hr,hg,ht,hw,rfl,ca,cy,co,cr,cg,ct,cw⟩,U1.drop1⟩
  ·skip
   clear g7 hn
   simp only[ptr,aF]at*
   go_enter Tryz.func50,Tryz.ntmps50
   go_wp2_with(first|(go_at_call 99;refine Calls.mono ho ?_;rintro e w1 ⟨rfl,h',⟨v,ha,hy,ho',hr,hg,ht,hw,rfl,ca,cy,co,cr,cg,ct,cw⟩,u1⟩;have U1:=aj.box (x:=[]) u1 (.cells (aF H) 92 (0,0));obtain⟨p1,p2,p3,p4,p5,p6⟩:=aS U1.au.core;clear p2 p3 p4 p5;simp only[ptr,aF]at p1 p6)|(go_at_call 81;refine Calls.mono (hget _ _ (aj.au U1).table ct) ?_;rintro e w2 ⟨rfl,rfl⟩))
   go_ret
   exact⟨rfl,_,⟨v,ha,hy,ho',hr,hg,ht,hw,rfl,ca,cy,co,cr,cg,ct,cw⟩,U1.drop1⟩
 have e1:s.jr i n k=0:=by simp[af.jr,he,hk,hn]
 have e2:s.set i n k=s.xP i n k:=by simp[af.set,e1]
 rw[e1,e2]
 simp only[af.jF,decide_eq_true_eq]at hn
 obtain⟨n1,n2⟩:=hn
 have TF:=fun W h (oz:In W h) (hc:ah pc L (s.put i n k) h)=>D9 pc L (s.put i n k) (aB s.t i) W h oz hc hib
 have hwr:IntKind.u64.wrap (aB s.t k)=u64 (aB s.t k):=IntKind.wrap_u64 _
 have hfld:=fun W h (oz:In W h) (ha:dZ L.pa s.ws h)=>sK L.pa s.ws (aB s.t i) n (u64 (aB s.t k)) W h oz ha (Ag _)
 have hin:=fun W h (oz:In W h) (hy:gy L.py s.y h)=>KJ L.py s.y (aB s.t k) W h oz hy hkb
 cases hI:s.y.isIn (aB s.t k)
 ·have e4:s.xP i n k=s.put i n k:=by simp[af.xP,hI]
  rw[e4]
  rw[hI]at hin
  simp only[af.put]
  clear e1 e2 e3 e4 he hk hI TF KQ
  generalize aB s.t i=j at*
  generalize aB s.t k=r at*
  generalize s.iO i=H at*
  clear g7
  simp only[ptr,aF]at*
  go_enter Tryz.func50,Tryz.ntmps50
  go_wp2_with(first|(go_at_call 99;refine Calls.mono ho ?_;rintro e w1 ⟨rfl,h',⟨v,ha,hy,ho',hr,hg,ht,hw,rfl,ca,cy,co,cr,cg,ct,cw⟩,u1⟩;have U1:=aj.box (x:=[]) u1 (.cells (aF H) 92 (0,0));obtain⟨p1,p2,p3,p4,p5,p6⟩:=aS U1.au.core;clear p2 p3 p4 p5;simp only[ptr,aF]at p1 p6)|(go_at_call 81;refine Calls.mono (hget _ _ (aj.au U1).table ct) ?_;rintro e w2 ⟨rfl,rfl⟩)|(go_at_call 102;refine Calls.mono (hfld _ _ (aj.au U1).arena ca) ?_;rintro e w3 ⟨rfl,ha',ca',u3⟩;have U3:=aj.arena (x:=[_]) U1 u3;obtain⟨p1,p2,p3,p4,p5,p6⟩:=aS U3.au.core;clear p1 p3 p4 p5 p6;simp only[ptr]at p2)|(go_at_call 43;refine Calls.mono (hin _ _ (aj.au U3).fG cy) ?_;rintro e w4 ⟨rfl,u4⟩;have U4:=aj.fG (x:=[_]) U3 u4))
  go_ret
  exact⟨rfl,_,⟨v,ha',hy,ho',hr,hg,ht,hw,rfl,ca',cy,co,cr,cg,ct,cw⟩,U4.drop1⟩
 ·have e4:s.xP i n k=(s.put i n k).note (aB s.t i):=by simp[af.xP,hI]
  rw[e4]
  rw[hI]at hin
  clear e1 e2 e3 e4 he hk hI KQ
  have hPc: ∀h,ah pc L {s with ws:=iQ s.ws (place (aB s.t i) n) (u64 (aB s.t k))} h->ah pc L (s.put i n k) h:=fun h hh=>hh
  have HP:=Lib.hid hPc
  clear hPc
  generalize s.put i n k=P at*
  generalize aB s.t i=j at*
  generalize aB s.t k=r at*
  generalize s.iO i=H at*
  clear g7
  simp only[ptr,aF]at*
  go_enter Tryz.func50,Tryz.ntmps50
  go_wp2_with(first|(go_at_call 99;refine Calls.mono ho ?_;rintro e w1 ⟨rfl,h',⟨v,ha,hy,ho',hr,hg,ht,hw,rfl,ca,cy,co,cr,cg,ct,cw⟩,u1⟩;have U1:=aj.box (x:=[]) u1 (.cells (aF H) 92 (0,0));obtain⟨p1,p2,p3,p4,p5,p6⟩:=aS U1.au.core;clear p2 p3 p4 p5;simp only[ptr,aF]at p1 p6)|(go_at_call 81;refine Calls.mono (hget _ _ (aj.au U1).table ct) ?_;rintro e w2 ⟨rfl,rfl⟩)|(go_at_call 102;refine Calls.mono (hfld _ _ (aj.au U1).arena ca) ?_;rintro e w3 ⟨rfl,ha',ca',u3⟩;have U3:=aj.arena (x:=[_]) U1 u3;obtain⟨p1,p2,p3,p4,p5,p6⟩:=aS U3.au.core;clear p1 p3 p4 p5 p6;simp only[ptr]at p2)|(go_at_call 43;refine Calls.mono (hin _ _ (aj.au U3).fG cy) ?_;rintro e w4 ⟨rfl,u4⟩;have U4:=aj.fG (x:=[_]) U3 u4)|(go_at_call 103;refine Calls.mono (TF _ _ U4.drop1.au (HP.out _ ⟨v,ha',hy,ho',hr,hg,ht,hw,rfl,ca',cy,co,cr,cg,ct,cw⟩)) ?_;rintro e w5 ⟨rfl,h5,c5,u5⟩;have U5:=U4.drop1.trans u5))
  go_ret
  exact⟨rfl,_,c5,U5⟩
theorem Pj(pc:Nat)(L:aX)(s:af)(S1 S2:af)(r k i n:Int)(hok:s.jr i n k=0)(w:World)(h:Hp)(hi:In w h)(hc:ah pc L s h)(hr:I64 r)
  (KR: ∀W h,In W h->ah pc L s h->Calls Tryz.prog 100 #[ptr pc, .int .i64 (aQ s.ws (aB s.t i) n)] W fun e w'=>e= .returned (.int .i64 r)/\ ∃h',ah pc L S1 h'/\aj h h' W w')
  (DU: ∀W h,In W h->ah pc L S1 h->Calls Tryz.prog 101 #[ptr pc, .int .i64 r] W fun e w'=>e= .returned (.tuple #[])/\ ∃h',ah pc L S2 h'/\aj h h' W w'):
  Calls Tryz.prog 49 #[ptr pc, .int .i64 k, .int .i64 i, .int .i64 n] w fun e w'=>
   e= .returned (.int .i64 (bI S2.t k))/\ ∃h',ah pc L {S2 with t:=bP S2.t k r} h'/\aj h h' w w':=by
 have ho:=mJ pc L s i w h hi hc
 have he:s.fP i=0:=by
  simp only[af.jr]at hok
  split at hok
  ·assumption
  ·rename_i h1
   exact absurd hok h1
 have hk:bY s.t k=true:=by
  simp only[af.jr,if_pos he]at hok
  split at hok
  ·assumption
  ·cases hok
 have hn:s.jF i n=true:=by
  simp only[af.jr,if_pos he,if_pos hk]at hok
  split at hok
  ·assumption
  ·cases hok
 have hget:=fun W h (oz:In W h) (ht:lH L.pt s.t h)=>ku L.pt s.t k W h oz ht
 have vJ:=fun W h (oz:In W h) (hc:ah pc L s h)=>uI pc L s (aB s.t i) n W h oz hc
 have hset:=fun W h (oz:In W h) (ht:lH L.pt S2.t h)=>qW L.pt S2.t k r W h oz ht hr
 obtain⟨g1,g2,g3,g4,g5,g6,g7⟩:=s.pI i
 have e3:bI s.t k=0:=by simp[bI,hk]
 rw[he]at ho
 rw[e3]at hget
 simp only[af.jF,decide_eq_true_eq]at hn
 obtain⟨n1,n2⟩:=hn
 clear hok he hk e3 g7
 generalize aQ s.ws (aB s.t i) n=q at*
 generalize aB s.t i=j at*
 generalize s.iO i=H at*
 simp only[ptr,aF]at*
 have HM:=Lib.hid KR
 have HK:=Lib.hid DU
 clear KR DU
 go_enter Tryz.func49,Tryz.ntmps49
 go_wp2_with(first|(go_at_call 99;refine Calls.mono ho ?_;rintro e w1 ⟨rfl,h',⟨v,ha,hy,ho',hr,hg,ht,hw,rfl,ca,cy,co,cr,cg,ct,cw⟩,u1⟩;have U1:=aj.box (x:=[]) u1 (.cells (aF H) 92 (0,0));obtain⟨p1,p2,p3,p4,p5,p6⟩:=aS U1.au.core;clear p2 p3 p4 p5;simp only[ptr,aF]at p1 p6)|(go_at_call 81;refine Calls.mono (hget _ _ (aj.au U1).table ct) ?_;rintro e w2 ⟨rfl,rfl⟩)|(go_at_call 61;refine Calls.mono (vJ _ _ U1.drop1.au ⟨v,ha,hy,ho',hr,hg,ht,hw,rfl,ca,cy,co,cr,cg,ct,cw⟩) ?_;rintro e w3 ⟨rfl,h3,c3,u3⟩;have U3:=U1.drop1.trans u3)|(go_at_call 100;refine Calls.mono (HM.out _ _ U3.au c3) ?_;rintro e w4 ⟨rfl,h4,c4,u4⟩;have U4:=U3.trans u4)|(go_at_call 101;refine Calls.mono (HK.out _ _ U4.au c4) ?_;rintro e w5 ⟨rfl,h5,⟨v5,AZ,vK,vM,vN,hg5,vX,hw5,rfl,rD,yM,zU,zV,yL,zW,xQ⟩,u5⟩;have U5:=U4.trans u5;obtain⟨p1,p2,p3,p4,p5,p6⟩:=aS (In.core (x:=[]) U5.au);clear p1 p2 p3 p4 p5;simp only[ptr]at p6)|(go_at_call 80;refine Calls.mono (hset _ _ (In.table (x:=[]) U5.au) zW) ?_;rintro e w6 ⟨rfl,Ye,Yf,u6⟩;have U6:=aj.table (x:=[]) U5 u6))
 go_ret
 exact⟨rfl,_,⟨v5,AZ,vK,vM,vN,hg5,Ye,hw5,rfl,rD,yM,zU,zV,yL,Yf,xQ⟩,U6⟩
theorem Jf(pc:Nat)(L:aX)(s:af)(k i n:Int)(hbad:s.jr i n k≠0)(w:World)(h:Hp)(hi:In w h)(hc:ah pc L s h):
  Calls Tryz.prog 49 #[ptr pc, .int .i64 k, .int .i64 i, .int .i64 n] w fun e w'=>
   e= .returned (.int .i64 (s.jr i n k))/\ ∃h',ah pc L s h'/\aj h h' w w':=by
 have ho:=mJ pc L s i w h hi hc
 have hget:=fun W h (oz:In W h) (ht:lH L.pt s.t h)=>ku L.pt s.t k W h oz ht
 obtain⟨g1,g2,g3,g4,g5,g6,g7⟩:=s.pI i
 have HB:=Lib.hid hbad
 clear hbad
 by_cases he:s.fP i=0
 case neg=>
  have e1:s.jr i n k=s.fP i:=by simp[af.jr,he]
  have e2:True:=trivial
  have hne:(s.fP i !=0)=true:=by simpa using he
  rw[e1]
  generalize s.iO i=H at*
  generalize s.fP i=E at*
  clear e1 e2 g1 g2 g3 g4 g5 g6 g7
  simp only[ptr,aF]at*
  go_enter Tryz.func49,Tryz.ntmps49
  go_wp2_with(go_at_call 99;refine Calls.mono ho ?_;rintro e w1 ⟨rfl,h',c1,u1⟩)
  go_ret
  exact⟨rfl,h',c1,u1.skip' _⟩
 by_cases hk:bY s.t k=true
 case neg=>
  have e1:s.jr i n k=3:=by simp[af.jr,he,hk]
  have e2:True:=trivial
  rw[e1]
  have e3:bI s.t k=3:=by simp[bI,hk]
  rw[he]at ho
  rw[e3]at hget
  clear e1 e2 e3 he hk
  generalize aB s.t i=j at*
  generalize s.iO i=H at*
  clear g1 g2 g3 g4 g5 g6 g7
  simp only[ptr,aF]at*
  go_enter Tryz.func49,Tryz.ntmps49
  go_wp2_with(first|(go_at_call 99;refine Calls.mono ho ?_;rintro e w1 ⟨rfl,h',⟨v,ha,hy,ho',hr,hg,ht,hw,rfl,ca,cy,co,cr,cg,ct,cw⟩,u1⟩;have U1:=aj.box (x:=[]) u1 (.cells (aF H) 92 (0,0));obtain⟨p1,p2,p3,p4,p5,p6⟩:=aS U1.au.core;clear p2 p3 p4 p5;simp only[ptr,aF]at p1 p6)|(go_at_call 81;refine Calls.mono (hget _ _ (aj.au U1).table ct) ?_;rintro e w2 ⟨rfl,rfl⟩))
  go_ret
  exact⟨rfl,_,⟨v,ha,hy,ho',hr,hg,ht,hw,rfl,ca,cy,co,cr,cg,ct,cw⟩,U1.drop1⟩
 have e3:bI s.t k=0:=by simp[bI,hk]
 rw[he]at ho
 rw[e3]at hget
 by_cases hn:s.jF i n=true
 case neg=>
  have e1:s.jr i n k=5:=by simp[af.jr,he,hk,hn]
  have e2:True:=trivial
  rw[e1]
  simp only[af.jF,decide_eq_true_eq]at hn
  clear e1 e2 e3 he hk
  generalize aB s.t i=j at*
  generalize s.iO i=H at*
  by_cases k1:0<=n
  ·have k2:H.ptrs<=n:=by omega
   clear g7 hn
   simp only[ptr,aF]at*
   go_enter Tryz.func49,Tryz.ntmps49
   go_wp2_with(first|(go_at_call 99;refine Calls.mono ho ?_;rintro e w1 ⟨rfl,h',⟨v,ha,hy,ho',hr,hg,ht,hw,rfl,ca,cy,co,cr,cg,ct,cw⟩,u1⟩;have U1:=aj.box (x:=[]) u1 (.cells (aF H) 92 (0,0));obtain⟨p1,p2,p3,p4,p5,p6⟩:=aS U1.au.core;clear p2 p3 p4 p5;simp only[ptr,aF]at p1 p6)|(go_at_call 81;refine Calls.mono (hget _ _ (aj.au U1).table ct) ?_;rintro e w2 ⟨rfl,rfl⟩))
   go_ret
   exact⟨rfl,_,⟨v,ha,hy,ho',hr,hg,ht,hw,rfl,ca,cy,co,cr,cg,ct,cw⟩,U1.drop1⟩
  ·skip
   clear g7 hn
   simp only[ptr,aF]at*
   go_enter Tryz.func49,Tryz.ntmps49
   go_wp2_with(first|(go_at_call 99;refine Calls.mono ho ?_;rintro e w1 ⟨rfl,h',⟨v,ha,hy,ho',hr,hg,ht,hw,rfl,ca,cy,co,cr,cg,ct,cw⟩,u1⟩;have U1:=aj.box (x:=[]) u1 (.cells (aF H) 92 (0,0));obtain⟨p1,p2,p3,p4,p5,p6⟩:=aS U1.au.core;clear p2 p3 p4 p5;simp only[ptr,aF]at p1 p6)|(go_at_call 81;refine Calls.mono (hget _ _ (aj.au U1).table ct) ?_;rintro e w2 ⟨rfl,rfl⟩))
   go_ret
   exact⟨rfl,_,⟨v,ha,hy,ho',hr,hg,ht,hw,rfl,ca,cy,co,cr,cg,ct,cw⟩,U1.drop1⟩
 exact absurd (by simp[af.jr,he,hk,hn]) HB.out
end Go.Proofs.YtibemcgdmembeaaGreat
namespace Go.Proofs.YtibemcgdmembeaaGreat
open Go.RowKit
def af.jG(s:af)(p c:Int):Hd:=⟨p+c,p,0,s.parity,false,false,false⟩
def af.gI(s:af)(i p c:Int):Int:=if bY s.t i then(if s.eX p c then(if s.qK (p+c+2)then 0 else 7)else 6)else 3
def af.made(s:af)(i p c:Int):af:=
 {s with ws:=iT s.ws (s.y.di (p+c+2)) (s.jG p c),y:=s.y.take (p+c+2),t:=bP s.t i (s.y.di (p+c+2)),done:={s.done with oN:=wrap64 (s.done.oN+1),words:=wrap64 (s.done.words+(p+c+2))}}
def af.make(s:af)(i p c:Int):af:=if s.gI i p c=0 then s.made i p c else s
theorem MW(pc:Nat)(L:aX)(s:af)(i p c:Int)(w:World)(h:Hp)(hi:In w h)(hc:ah pc L s h)
  (hl0:0<=s.C.largest)(hl1:s.C.largest<=64)(h3:0<=s.copied)(h4:s.copied<=1048576)(hpar:s.parity=0∨s.parity=1):
  Calls Tryz.prog 41 #[ptr pc, .int .i64 i, .int .i64 p, .int .i64 c] w fun e w'=>
   e= .returned (.int .i64 (s.gI i p c))/\ ∃h',ah pc L (s.make i p c) h'/\aj h h' w w':=by
 have hroom0:=fun n h1 h2 W h (oz:In W h) (hc:ah pc L s h)=>MR pc L s n W h oz hc h1 h2 h3 h4
 have hc0:=hc
 obtain⟨v,ha,hy,ho,hr,hg,ht,hw,rfl,ca,cy,co,cr,cg,ct,cw⟩:=hc
 have hget:=ku L.pt s.t i w ht (In.table (x:=[]) hi) ct
 obtain⟨p1,p2,p3,p4,p5,p6⟩:=aS (In.core (x:=[]) hi)
 clear p1 p2 p3 p4 p5
 by_cases hk:bY s.t i=true
 case neg=>
  have e1:s.gI i p c=3:=by simp[af.gI,hk]
  have e2:s.make i p c=s:=by simp[af.make,e1]
  have e3:bI s.t i=3:=by simp[bI,hk]
  rw[e1,e2]
  rw[e3]at hget
  clear e1 e2 e3 hk hpar hroom0
  simp only[ptr]at*
  go_enter Tryz.func41,Tryz.ntmps41
  go_wp2_with(go_at_call 81;refine Calls.mono hget ?_;rintro e w1 ⟨rfl,rfl⟩)
  go_ret
  exact⟨rfl,_,hc0,aj.refl hi⟩
 have e3:bI s.t i=0:=by simp[bI,hk]
 rw[e3]at hget
 have hshape:=Jd pc L s p c w v hl0 hl1 (In.core (x:=[]) hi)
 by_cases hs:s.eX p c=true
 case neg=>
  have e1:s.gI i p c=6:=by simp[af.gI,hk,hs]
  have e2:s.make i p c=s:=by simp[af.make,e1]
  have hs':s.eX p c=false:=by simpa using hs
  rw[e1,e2]
  rw[hs']at hshape
  clear e1 e2 e3 hk hpar hroom0 hs hs'
  simp only[ptr]at*
  go_enter Tryz.func41,Tryz.ntmps41
  go_wp2_with(first|(go_at_call 81;refine Calls.mono hget ?_;rintro e w1 ⟨rfl,rfl⟩)|(go_at_call 82;refine Calls.mono hshape ?_;rintro e w1 ⟨rfl,rfl⟩))
  go_ret
  exact⟨rfl,_,hc0,aj.refl hi⟩
 have hs2:=hs
 simp only[af.eX,decide_eq_true_eq]at hs2
 obtain⟨s1,s2,s3,s4⟩:=hs2
 rw[hs]at hshape
 have hG:(s.jG p c).Good:=by
  simp only[af.jG,Hd.Good]
  omega
 have hw1:(s.jG p c).words=p+c+2:=rfl
 have nP:=mM (s.jG p c) hG
 rw[hw1]at nP
 have hroom:=hroom0 (p+c+2) (by omega) (by omega)
 clear hroom0
 obtain⟨q1,q2,q3,q4,q5,q6⟩:=iP (In.core (x:=[]) hi)
 clear q2 q3 q4 q5 q6
 have hwr:IntKind.i64.wrap (p+c)=p+c:=IntWalk.i64_in _ (by omega)
 have U0:=aj.box (x:=[]) (aj.refl hi) (.cells (aF (s.jG p c)) 92 (0,0))
 cases hR:s.qK (p+c+2)
 ·have e1:s.gI i p c=7:=by simp[af.gI,hk,hs,hR]
  have e2:s.make i p c=s:=by simp[af.make,e1]
  rw[e1,e2]
  rw[hR]at hroom
  clear e1 e2 e3 hk hpar hs hR hG hw1
  simp only[ptr,aF,af.jG]at*
  go_enter Tryz.func41,Tryz.ntmps41
  go_wp2_with(first|(go_at_call 81;refine Calls.mono hget ?_;rintro e w1 ⟨rfl,rfl⟩)|(go_at_call 82;refine Calls.mono hshape ?_;rintro e w1 ⟨rfl,rfl⟩)|(go_at_call 77;refine Calls.mono (nP _) ?_;rintro e w1 ⟨rfl,u1⟩;have U1:=U0.dK u1;obtain⟨d0,d1,d2,d3,d4,d5,d6⟩:=bW (x:=⟨p+c,p,0,s.parity,false,false,false⟩) U1.au.head;simp only at d0 d1 d2 d3 d4 d5 d6)|(go_at_call 83;refine Calls.mono (hroom _ _ U1.au.tail hc0) ?_;rintro e w2 ⟨rfl,u2⟩;have U2:=U1.under u2;obtain⟨p1,p2,p3,p4,p5,p6⟩:=aS (In.core (x:=[_]) U2.au);clear p1 p3 p4 p5 p6;simp only[ptr]at p2))
  go_ret
  exact⟨rfl,_,hc0,U2.drop1⟩
 ·have e1:s.gI i p c=0:=by simp[af.gI,hk,hs,hR]
  have e2:s.make i p c=s.made i p c:=by simp[af.make,e1]
  rw[e1,e2]
  rw[hR]at hroom
  have htake:=fun W h (oz:In W h) (hy:gy L.py s.y h)=>DT L.py s.y (p+c+2) W h oz hy (I64.small (by omega) (by omega))
  have hmk:=fun W h (oz:In W h) (ha:dZ L.pa s.ws h)=>Pm L.pa s.ws (s.y.di (p+c+2)) (s.jG p c) hG W h oz ha
  have hat:=aJ.WF.at cy.2 (p+c+2)
  have hset:=fun W h (oz:In W h) (ht:lH L.pt s.t h)=>qW L.pt s.t i (s.y.di (p+c+2)) W h oz ht (I64.small (by omega) (by omega))
  rw[e3]at hset
  have HF: ∀h,ah pc L {s with ws:=iT s.ws (s.y.di (p+c+2)) (s.jG p c),y:=s.y.take (p+c+2),t:=bP s.t i (s.y.di (p+c+2)),done:={s.done with oN:=wrap64 (s.done.oN+1),words:=wrap64 (s.done.words+(p+c+2))}} h->ah pc L (s.made i p c) h:=fun h hh=>hh
  have HH:=Lib.hid HF
  clear HF
  generalize s.made i p c=M at*
  generalize hKW:iT s.ws (s.y.di (p+c+2)) (s.jG p c)=KW at*
  generalize rE s.ws (s.y.di (p+c+2)) (s.jG p c)=KE at*
  generalize s.y.di (p+c+2)=j at*
  generalize s.y.take (p+c+2)=Y at*
  generalize s.y.iZ (p+c+2)=ok at*
  clear e1 e2 e3 hk hpar hs hR hG hw1 hKW
  simp only[ptr,aF,af.jG]at*
  go_enter Tryz.func41,Tryz.ntmps41
  go_wp2_with(first|(go_at_call 81;refine Calls.mono hget ?_;rintro e w1 ⟨rfl,rfl⟩)|(go_at_call 82;refine Calls.mono hshape ?_;rintro e w1 ⟨rfl,rfl⟩)|(go_at_call 77;refine Calls.mono (nP _) ?_;rintro e w1 ⟨rfl,u1⟩;have U1:=U0.dK u1;obtain⟨d0,d1,d2,d3,d4,d5,d6⟩:=bW (x:=⟨p+c,p,0,s.parity,false,false,false⟩) U1.au.head;simp only at d0 d1 d2 d3 d4 d5 d6)|(go_at_call 83;refine Calls.mono (hroom _ _ U1.au.tail hc0) ?_;rintro e w2 ⟨rfl,u2⟩;have U2:=U1.under u2;obtain⟨p1,p2,p3,p4,p5,p6⟩:=aS (In.core (x:=[_]) U2.au);clear p1 p3 p4 p5 p6;simp only[ptr]at p2)|(go_at_call 84;refine Calls.mono (htake _ _ (In.fG (x:=[_]) U2.au) cy) ?_;rintro e w3 ⟨rfl,hy',Wh,u3⟩;have U3:=aj.fG (x:=[_]) U2 u3;clear d0 d1 d2 d3 d4 d5 d6;obtain⟨d0,d1,d2,d3,d4,d5,d6⟩:=bW (x:=⟨p+c,p,0,s.parity,false,false,false⟩) U3.au.head;simp only at d0 d1 d2 d3 d4 d5 d6;obtain⟨p1,p2,p3,p4,p5,p6⟩:=aS U3.au.core;clear p2 p3 p4 p5 p6;simp only[ptr]at p1;have U3d:=U3.drew'))
  refine eP 6 (by kernel_rfl) (by kernel_rfl) fun w6 hw6=> ?_
  subst hw6
  simp only[List.take_succ_cons,List.take_zero,List.drop_succ_cons,List.drop_zero]
  repeat(refine wpStill_step (fun K hK=> ?_);have HK:=Lib.hid hK;clear hK;go_simp;refine HK.out _ ?_;clear HK K)
  refine wpStill_nil ?_
  go_wp2_with(first|(go_at_call 85;refine Calls.mono (hmk _ _ (aj.au U3d).arena ca) ?_;rintro e w4 ⟨rfl,ha',ca',u4⟩;have U4:=(aj.arena (x:=[_]) U3d u4).drop1;obtain⟨t0,t1,t2,t3,t4,t5,t6,t7⟩:=Jg (In.core (x:=[]) U4.au);clear t2 t3 t4 t5 t6 t7;obtain⟨p1,p2,p3,p4,p5,p6⟩:=aS (In.core (x:=[]) U4.au);clear p1 p2 p3 p4 p5;simp only[ptr]at p6;have F:=aZ (In.core (x:=[]) U4.au);have f0:=F 26;have f1:=F 27;clear F;have U5:=aj.Jh (x:=[]) (aj.GG (x:=[]) U4 (wrap64 (s.done.oN+1))) (wrap64 (s.done.words+(p+c+2))))|(go_at_call 80;refine Calls.mono (hset _ _ (In.table (x:=[]) U5.au) ct) ?_;rintro e w5 ⟨rfl,ht',UH,u5⟩;have U6:=aj.table (x:=[]) U5 u5))
  go_ret
  exact⟨rfl,_,HH.out _ ⟨v,ha',hy',ho,hr,hg,ht',hw,rfl,ca',Wh,co,cr,cg,UH,cw⟩,U6⟩
end Go.Proofs.YtibemcgdmembeaaGreat
namespace Go.Proofs.YtibemcgdmembeaaGreat
open Go.RowKit
theorem A7(pc:Nat)(L:aX)(s:af)(i:Int)(w:World)(h:Hp)(hi:In w h)(hc:ah pc L s h)(hb:I64 i)(hf:i=0∨s.y.dI i=false):
  Calls Tryz.prog 100 #[ptr pc, .int .i64 i] w fun e w'=>e= .returned (.int .i64 i)/\aj h h w w':=by
 obtain⟨v,ha,hy,ho,hr,hg,ht,hw,rfl,ca,cy,co,cr,cg,ct,cw⟩:=hc
 have U0:=aj.refl hi
 obtain⟨p1,p2,p3,p4,p5,p6⟩:=aS (In.core (x:=[]) hi)
 have jg:=qX L.py s.y i w hy (In.fG (x:=[]) hi) cy hb
 clear p1 p3 p4 p5 p6
 simp only[ptr]at*
 by_cases hz:i=0
 ·have hq:(i==0)=true:=by simpa using hz
  clear hz hf
  go_enter Tryz.func100,Tryz.ntmps100
  go_wp2
  go_ret
  exact⟨rfl,U0⟩
 ·have hq:(i==0)=false:=by simpa using hz
  have hf':s.y.dI i=false:=hf.resolve_left hz
  rw[hf']at jg
  clear hz hf hf'
  go_enter Tryz.func100,Tryz.ntmps100
  go_wp2_with(go_at_call 44;refine Calls.mono jg ?_;rintro e w1 ⟨rfl,u1⟩;have U1:=aj.fG (x:=[]) U0 u1)
  go_ret
  exact⟨rfl,U1⟩
def statCells(d:Pn):Array Value:=#[.int .i64 d.oN, .int .i64 d.words, .int .i64 d.promoted, .int .i64 d.minors, .int .i64 d.qP, .int .i64 d.fG, .int .i64 d.old, .int .i64 d.free]
theorem Zq{w:World}{b:Nat}{d:Pn}{T:TypeId}(h:w.heap[b]? =some (.cells (statCells d) T (0,0))):
  w.cell? ⟨b,0,none⟩=some (.int .i64 d.oN)/\w.cell? ⟨b,1,none⟩=some (.int .i64 d.words)/\w.cell? ⟨b,2,none⟩=some (.int .i64 d.promoted)/\w.cell? ⟨b,3,none⟩=some (.int .i64 d.minors)/\w.cell? ⟨b,4,none⟩=some (.int .i64 d.qP)/\w.cell? ⟨b,5,none⟩=some (.int .i64 d.fG)/\w.cell? ⟨b,6,none⟩=some (.int .i64 d.old)/\w.cell? ⟨b,7,none⟩=some (.int .i64 d.free):=
 ⟨cell_of h 0,cell_of h 1,cell_of h 2,cell_of h 3,cell_of h 4,cell_of h 5,cell_of h 6,cell_of h 7⟩
theorem ZB{w:World}{b:Nat}{d:Pn}{T:TypeId}(h:w.heap[b]? =some (.cells (statCells d) T (0,0))):
  w.frozen? ⟨b,0,none⟩=false/\w.frozen? ⟨b,1,none⟩=false/\w.frozen? ⟨b,2,none⟩=false/\w.frozen? ⟨b,3,none⟩=false/\w.frozen? ⟨b,4,none⟩=false/\w.frozen? ⟨b,5,none⟩=false/\w.frozen? ⟨b,6,none⟩=false/\w.frozen? ⟨b,7,none⟩=false:=
 ⟨aO h 0,aO h 1,aO h 2,aO h 3,aO h 4,aO h 5,aO h 6,aO h 7⟩
theorem aj.stat{w0 w:World}{h r:Hp}{b:Nat}{x:Pn}{T:TypeId}{fr:Nat×Nat}(a:aj h ((b, .cells (statCells x) T fr)::r) w0 w)(y:Pn):
  aj h ((b, .cells (statCells y) T fr)::r) w0 ((((((((w.setCell ⟨b,0,none⟩ (.int .i64 y.oN)).setCell ⟨b,1,none⟩ (.int .i64 y.words)).setCell ⟨b,2,none⟩ (.int .i64 y.promoted)).setCell ⟨b,3,none⟩ (.int .i64 y.minors)).setCell ⟨b,4,none⟩ (.int .i64 y.qP)).setCell ⟨b,5,none⟩ (.int .i64 y.fG)).setCell ⟨b,6,none⟩ (.int .i64 y.old)).setCell ⟨b,7,none⟩ (.int .i64 y.free)):=by
 have u:=((((((((a.store1 0 (.int .i64 y.oN)).store1 1 (.int .i64 y.words)).store1 2 (.int .i64 y.promoted)).store1 3 (.int .i64 y.minors)).store1 4 (.int .i64 y.qP)).store1 5 (.int .i64 y.fG)).store1 6 (.int .i64 y.old)).store1 7 (.int .i64 y.free))
 have e:(((((((((statCells x).setIfInBounds 0 (.int .i64 y.oN)).setIfInBounds 1 (.int .i64 y.words)).setIfInBounds 2 (.int .i64 y.promoted)).setIfInBounds 3 (.int .i64 y.minors)).setIfInBounds 4 (.int .i64 y.qP)).setIfInBounds 5 (.int .i64 y.fG)).setIfInBounds 6 (.int .i64 y.old)).setIfInBounds 7 (.int .i64 y.free))=statCells y:=by
  simp[statCells]
 rw[e]at u
 exact u
theorem acw{w:World}{k a i j o:Nat}{x u v:Value}(h:w.cell? ⟨a,i,none⟩=some u/\w.cell? ⟨a,j,none⟩=some v)(m:k≠a):
  (w.setCell ⟨k,o,none⟩ x).cell? ⟨a,i,none⟩=some u/\ (w.setCell ⟨k,o,none⟩ x).cell? ⟨a,j,none⟩=some v:=by
 have e: ∀i,(w.setCell ⟨k,o,none⟩ x).cell? ⟨a,i,none⟩=w.cell? ⟨a,i,none⟩:=by
  intro i
  simp only[World.cell?]
  rw[heap_setCell_other (by exact fun e=>m e.symm)]
 exact⟨(e i).trans h.1,(e j).trans h.2⟩
theorem aj.adr{w0 w:World}{h r:Hp}{b:Nat}{x:Pn}{T:TypeId}{fr:Nat×Nat}(a:aj h ((b, .cells (statCells x) T fr)::r) w0 w)(y o:Int):
  aj h ((b, .cells (statCells {x with fG:=y,old:=o}) T fr)::r) w0 ((w.setCell ⟨b,5,none⟩ (.int .i64 y)).setCell ⟨b,6,none⟩ (.int .i64 o)):=(a.store1 5 _).store1 6 _
theorem aj.ads{w0 w:World}{h r:Hp}{b:Nat}{x:Pn}{T:TypeId}{fr:Nat×Nat}(a:aj h ((b, .cells (statCells x) T fr)::r) w0 w)(y:Int):
  aj h ((b, .cells (statCells {x with free:=y}) T fr)::r) w0 (w.setCell ⟨b,7,none⟩ (.int .i64 y)):=a.store1 7 _
def Wi:Pn:=⟨0,0,0,0,0,0,0,0⟩
def af.stats(s:af)(u:Int):Pn:={s.done with fG:=wrap64 (s.y.cu+s.y.ou),old:=u,free:=wrap64 (wrap64 (s.C.pages*s.C.page)-u)}
theorem aa4(pc:Nat)(L:aX)(s:af)(u:Int)(w:World)(h:Hp)(hi:In w h)(hc:ah pc L s h)
  (D8: ∀W h,In W h->eF L.po s.o h->Calls Tryz.prog 122 #[ptr L.po] W fun e w'=>e= .returned (.int .i64 u)/\aj h h W w'):
  Calls Tryz.prog 74 #[ptr pc] w fun e w'=>e= .returned (.agg (statCells (s.stats u)))/\aj h h w w':=by
 obtain⟨v,ha,hy,ho,hr,hg,ht,hw,rfl,ca,cy,co,cr,cg,ct,cw⟩:=hc
 have U0:=aj.refl hi
 have VH:=fun W (oz:In W hy)=>LZ L.py s.y W hy oz cy
 have hou:=fun W (oz:In W hy)=>DR L.py s.y W hy oz cy
 have HU:=Lib.hid D8
 have UA:=aj.box (x:=[]) U0 (.cells (statCells Wi) 61 (0,0))
 have adA:=aj.box UA (.cells (statCells s.done) 61 (0,0))
 have hn1:w.heap.size+1≠w.heap.size:=by omega
 have hlt:pc<w.heap.size:=(Array.getElem?_eq_some_iff.1 (In.core (x:=[]) hi)).1
 have hpc0:pc≠w.heap.size:=by omega
 have hpc1:pc≠w.heap.size+1:=by omega
 have adg:w.heap.size+1≠pc:=by omega
 have hsz:(w.alloc (.cells (statCells Wi) 61 (0,0))).heap.size=w.heap.size+1:=by simp
 rw[hsz]at adA
 clear hsz
 obtain⟨t0,t1,t2,t3,t4,t5,t6,t7⟩:=Jg UA.au.core
 generalize hQ:s.stats u=Q
 simp only[ptr,statCells,Wi]at*
 go_enter Tryz.func74,Tryz.ntmps74
 go_wp2
 have UBd:=adA.drew'
 obtain⟨p1,p2,p3,p4,p5,p6⟩:=aS (In.core (x:=[_,_]) (aj.au UBd))
 simp only[ptr]at p2 p3
 have hSd:=And.intro p2 p3
 clear p1 p4 p5 p6
 go_region_held3 (fun w'=>w'.cell? ⟨pc,14,none⟩=some (.pointer (some ⟨L.py,0,none⟩))/\w'.cell? ⟨pc,15,none⟩=some (.pointer (some ⟨L.po,0,none⟩)))
  (first|exact acw (acw hS3 adg) adg|exact acw hS3 adg|exact hS3|exact hS2|exact hS1|exact hSd|go_keep)
  (first
   | (go_at_call 120;refine Calls.mono (VH _ (In.fG (x:=[_,_]) (aj.au UBd))) ?_;rintro e w1 ⟨rfl,u1⟩;have U1:=aj.fG (x:=[_,_]) UBd u1;obtain⟨p1,p2,p3,p4,p5,p6⟩:=aS (In.core (x:=[_,_]) (aj.au U1));simp only[ptr]at p2 p3;have hS1:=And.intro p2 p3;clear p1 p4 p5 p6)
   | (go_at_call 121;refine Calls.mono (hou _ (In.fG (x:=[_,_]) (aj.au U1))) ?_;rintro e w2 ⟨rfl,u2⟩;have U2:=aj.fG (x:=[_,_]) U1 u2;obtain⟨p1,p2,p3,p4,p5,p6⟩:=aS (In.core (x:=[_,_]) (aj.au U2));simp only[ptr]at p2 p3;have hS2:=And.intro p2 p3;clear p1 p4 p5 p6)
   | (go_at_call 122;refine Calls.mono (HU.out _ _ (In.old (x:=[_,_]) (aj.au U2)) co) ?_;rintro e w3 ⟨rfl,u3⟩;have U3:=aj.old (x:=[_,_]) U2 u3;obtain⟨p1,p2,p3,p4,p5,p6⟩:=aS (In.core (x:=[_,_]) (aj.au U3));simp only[ptr]at p2 p3;have hS3:=And.intro p2 p3;clear p1 p4 p5 p6;obtain⟨d0,d1,d2,d3,d4,d5,d6,d7⟩:=Zq (d:=s.done) (aj.au U3).head;obtain⟨f0,f1,f2,f3,f4,f5,f6,f7⟩:=ZB (d:=s.done) (aj.au U3).head;obtain⟨e0,e1,e2,e3,e4,e5,e6,e7⟩:=Zq (d:=Wi) (aj.au U3).tail.head;obtain⟨k0,k1,k2,k3,k4,k5,k6,k7⟩:=ZB (d:=Wi) (aj.au U3).tail.head;obtain⟨c0,c1,c2,c3,c4,c5,c6,c7,c8,c9,c10,c11,c12⟩:=Gz (In.core (x:=[_,_]) (aj.au U3));clear c0 c1 c4 c5 c6 c7 c8 c9 c10 c11 c12))
 go_wp2
 have U4:=(aj.adr (x:=s.done) U3 (IntKind.i64.wrap (s.y.cu+s.y.ou)) u)
 clear d0 d1 d2 d3 d4 d5 d6 d7 f0 f1 f2 f3 f4 f5 f6 f7 e0 e1 e2 e3 e4 e5 e6 e7 k0 k1 k2 k3 k4 k5 k6 k7 c2 c3
 generalize hw4:(w3.setCell ⟨w.heap.size+1,5,none⟩ (.int .i64 (IntKind.i64.wrap (s.y.cu+s.y.ou)))).setCell ⟨w.heap.size+1,6,none⟩ (.int .i64 u)=w4 at*
 clear hS1 hS2 hS3 hSd U1 U2 U3 u1 u2 u3 hw4 HU D8 UBd adA UA VH hou t0 t1 t2 t3 t4 t5 t6 t7
 have U4d:=U4.drew'
 obtain⟨d0,d1,d2,d3,d4,d5,d6,d7⟩:=Zq (aj.au U4d).head
 obtain⟨f0,f1,f2,f3,f4,f5,f6,f7⟩:=ZB (aj.au U4d).head
 obtain⟨c0,c1,c2,c3,c4,c5,c6,c7,c8,c9,c10,c11,c12⟩:=Gz (In.core (x:=[_,_]) (aj.au U4d))
 clear c0 c1 c4 c5 c6 c7 c8 c9 c10 c11 c12
 simp only at d0 d1 d2 d3 d4 d5 d6 d7
 obtain⟨e0,e1,e2,e3,e4,e5,e6,e7⟩:=Zq (d:=Wi) (aj.au U4d).tail.head
 obtain⟨k0,k1,k2,k3,k4,k5,k6,k7⟩:=ZB (d:=Wi) (aj.au U4d).tail.head
 have hn2:=hn1.symm
 refine eP 15 (by kernel_rfl) (by kernel_rfl) fun w6 hw6=> ?_
 subst hw6
 generalize w4.drew=w5 at*
 simp only[List.take_succ_cons,List.take_zero,List.drop_succ_cons,List.drop_zero]
 repeat(refine wpStill_step (fun K hK=> ?_);have HK:=Lib.hid hK;clear hK;go_simp;refine HK.out _ ?_;clear HK K)
 refine wpStill_nil ?_
 go_wp2
 have U5:=aj.ads U4d (wrap64 (wrap64 (s.C.pages*s.C.page)-u))
 have UF:=aj.stat (x:=Wi) U5.drop1 ⟨s.done.oN,s.done.words,s.done.promoted,s.done.minors,s.done.qP,wrap64 (s.y.cu+s.y.ou),u,wrap64 (wrap64 (s.C.pages*s.C.page)-u)⟩
 have hQ2:Q=⟨s.done.oN,s.done.words,s.done.promoted,s.done.minors,s.done.qP,wrap64 (s.y.cu+s.y.ou),u,wrap64 (wrap64 (s.C.pages*s.C.page)-u)⟩:=hQ.symm
 clear hQ
 subst hQ2
 have G:=Zq UF.au.head
 simp only at G UF
 obtain⟨g0,g1,g2,g3,g4,g5,g6,g7⟩:=G
 clear d0 d1 d2 d3 d4 d5 d6 d7 e0 e1 e2 e3 e4 e5 e6 e7 f0 f1 f2 f3 f4 f5 f6 f7 k0 k1 k2 k3 k4 k5 k6 k7 c2 c3
 refine bodyPost_ret (v:= .agg (statCells ⟨s.done.oN,s.done.words,s.done.promoted,s.done.minors,s.done.qP,wrap64 (s.y.cu+s.y.ou),u,wrap64 (wrap64 (s.C.pages*s.C.page)-u)⟩)) ?_ rfl ⟨rfl,UF.drop1⟩
 simp only[results,Tryz.results74]
 simp[go_sem,statCells,g0,g1,g2,g3,g4,g5,g6,g7]
end Go.Proofs.YtibemcgdmembeaaGreat
namespace Go.Proofs.YtibemcgdmembeaaGreat
open Go.RowKit
def af.lW(s:af)(n nZ:Int):Option (Int×aP):=if s.C.d_<=nZ then s.o.take n else none
def af.lX(s:af)(n nZ:Int):Int:=match s.lW n nZ with|some x=>x.1|none=>s.y.di n
def af.placed(s:af)(n nZ:Int):af:=match s.lW n nZ with|some x=>{s with o:=x.2}|none=>{s with y:=s.y.take n}
theorem Ji(pc:Nat)(L:aX)(s:af)(n nZ:Int)(w:World)(h:Hp)(hi:In w h)(hc:ah pc L s h)(h1:1<=n)(h2:n<=66)(h3:16<=s.o.words):
  Calls Tryz.prog 138 #[ptr pc, .int .i64 n, .int .i64 nZ] w fun e w'=>e= .returned (.tuple #[.int .i64 (s.lX n nZ), .bool (s.lW n nZ).isSome])/\ ∃h',ah pc L (s.placed n nZ) h'/\aj h h' w w':=by
 obtain⟨v,ha,hy,ho,hr,hg,ht,hw,rfl,ca,cy,co,cr,cg,ct,cw⟩:=hc
 have U0:=aj.refl hi
 obtain⟨p1,p2,p3,p4,p5,p6⟩:=aS (In.core (x:=[]) hi)
 obtain⟨c0,c1,c2,c3,c4,c5,c6,c7,c8,c9,c10,c11,c12⟩:=Gz (In.core (x:=[]) hi)
 have hpt: ∀W x,In W (x++(aI pc (bG L s v) ha hy ho hr hg ht hw).flatten)->W.cell? ⟨pc,14,none⟩=some (ptr L.py):=fun W x hW=>(aS (In.core hW)).2.1
 clear c0 c1 c2 c3 c4 c5 c6 c8 c9 c10 c11 c12 p1 p4 p5 p6
 have Yg:=fun W (oz:In W hy)=>DT L.py s.y n W hy oz cy ⟨by omega,by omega⟩
 by_cases hT:s.C.d_<=nZ
 ·have hmt:=fun W (oz:In W ho)=>Gu L.po s.o n W ho oz co h1 h2 h3
  have e1:s.lW n nZ=s.o.take n:=by simp[af.lW,hT]
  cases hF:s.o.take n with
  |none=>
   have e2:s.lX n nZ=s.y.di n:=by simp[af.lX,e1,hF]
   have e3:s.placed n nZ={s with y:=s.y.take n}:=by simp[af.placed,e1,hF]
   rw[e2,e3,e1,hF]
   rw[hF]at hmt
   simp only[Ro,Option.isSome_none,Rq]at hmt
   clear e1 e2 e3 hF
   simp only[ptr]at*
   go_enter Tryz.func138,Tryz.ntmps138
   go_wp2_with(first
    | (go_at_call 157;refine Calls.mono (hmt _ (In.old (x:=[]) hi)) ?_;rintro e w1 ⟨rfl,ho1,Yh,u1⟩;have U1:=aj.old (x:=[]) U0 u1;have p2':w1.cell? ⟨pc,14,none⟩=some (.pointer (some ⟨L.py,0,none⟩)):=(aS (In.core (x:=[]) U1.au)).2.1;clear hmt p2 p3 c7)
    | (go_at_call 84;refine Calls.mono (Yg _ (In.fG (x:=[]) U1.au)) ?_;rintro e w2 ⟨rfl,hy2,UI,u2⟩;have U2:=aj.fG (x:=[]) U1 u2))
   go_ret2
   exact⟨rfl,_,⟨v,ha,hy2,ho1,hr,hg,ht,hw,rfl,ca,UI,Yh,cr,cg,ct,cw⟩,U2⟩
  |some x=>
   obtain⟨a,o'⟩:=x
   have e2:s.lX n nZ=a:=by simp[af.lX,e1,hF]
   have e3:s.placed n nZ={s with o:=o'}:=by simp[af.placed,e1,hF]
   rw[e2,e3,e1,hF]
   rw[hF]at hmt
   simp only[Ro,Option.isSome_some,Rq]at hmt
   clear e1 e2 e3 hF Yg
   simp only[ptr]at*
   go_enter Tryz.func138,Tryz.ntmps138
   go_wp2_with(go_at_call 157;refine Calls.mono (hmt _ (In.old (x:=[]) hi)) ?_;rintro e w1 ⟨rfl,ho1,Yh,u1⟩;have U1:=aj.old (x:=[]) U0 u1;clear hmt p2 p3 c7)
   go_ret2
   exact⟨rfl,_,⟨v,ha,hy,ho1,hr,hg,ht,hw,rfl,ca,cy,Yh,cr,cg,ct,cw⟩,U1⟩
 ·have e1:s.lW n nZ=none:=by simp[af.lW,hT]
  have e2:s.lX n nZ=s.y.di n:=by simp[af.lX,e1]
  have e3:s.placed n nZ={s with y:=s.y.take n}:=by simp[af.placed,e1]
  rw[e2,e3,e1]
  clear e1 e2 e3
  simp only[ptr]at*
  go_enter Tryz.func138,Tryz.ntmps138
  go_wp2_with(go_at_call 84;refine Calls.mono (Yg _ (In.fG (x:=[]) U0.au)) ?_;rintro e w2 ⟨rfl,hy2,UI,u2⟩;have U2:=aj.fG (x:=[]) U0 u2)
  go_ret2
  exact⟨rfl,_,⟨v,ha,hy2,ho,hr,hg,ht,hw,rfl,ca,UI,co,cr,cg,ct,cw⟩,U2⟩
def af.oW(s:af)(a:Int):Int:=min ((ag s.ws a).nZ+1) 7
def af.kD(s:af)(a:Int):Int:=s.lX (ag s.ws a).words (s.oW a)
def af.lD(s:af)(a:Int):Bool:=(s.lW (ag s.ws a).words (s.oW a)).isSome
def af.sO(s:af)(a:Int):Hd:=
 if s.phase=1 then {ag s.ws a with nZ:=s.oW a,old:=s.lD a}else {ag s.ws a with nZ:=s.oW a,old:=s.lD a,parity:=s.parity,dh:=false}
def af.moved(s:af)(a:Int):af:=
 {s.placed (ag s.ws a).words (s.oW a)with
  ws:=jZ s.ws a (s.kD a) (s.sO a)
  copied:=wrap64 (s.copied+(ag s.ws a).words)
  done:=if s.lD a then {s.done with promoted:=wrap64 (s.done.promoted+(ag s.ws a).words)}else s.done
  row:=if s.lD a then s.row++[s.kD a]else s.row}
def af.move(s:af)(a:Int):af:=if a=0∨s.y.dI a=false then s else if s.now a=a then s.moved a else s
def af.dA(s:af)(a:Int):Int:=if a=0∨s.y.dI a=false then a else if s.now a=a then s.kD a else s.now a
theorem GH(s:af)(n g:Int):(s.placed n g).phase=s.phase/\ (s.placed n g).parity=s.parity/\ (s.placed n g).ws=s.ws/\ (s.placed n g).copied=s.copied/\ (s.placed n g).row=s.row/\ (s.placed n g).done=s.done:=by
 unfold af.placed
 split<;>exact⟨rfl,rfl,rfl,rfl,rfl,rfl⟩
theorem Jj(pc:Nat)(L:aX)(s:af)(a:Int)(w:World)(h:Hp)(hi:In w h)(hc:ah pc L s h)(hb:I64 a)(h0:a≠0)(hf:s.y.dI a=true)(hn:s.now a=a)(h3:16<=s.o.words)(hpar:s.parity=0∨s.parity=1)(hrow:s.row.length<=1000000)(hto:I64 (s.kD a)):
  Calls Tryz.prog 100 #[ptr pc, .int .i64 a] w fun e w'=>e= .returned (.int .i64 (s.kD a))/\ ∃h',ah pc L (s.moved a) h'/\aj h h' w w':=by
 have hq:(a==0)=false:=by simpa using h0
 have U0:=aj.refl hi
 have dQ:=fun W h (hW:In W h) (hc:ah pc L s h)=>oG pc L s a W h hW hc hb
 rw[hn]at dQ
 have hhd:=fun W h (hW:In W h) (hc:ah pc L s h)=>ry pc L s a W h hW hc
 have hG:(ag s.ws a).Good:=dU _
 obtain⟨g1,g2,g3,g4,g5,g6,g7⟩:=hG
 obtain⟨n,hnw⟩: ∃n,n=(ag s.ws a).words:=⟨_,rfl⟩
 have hnn:n=(ag s.ws a).size+2:=hnw
 obtain⟨A,hA⟩: ∃A,A=s.oW a:=⟨_,rfl⟩
 have hA1:A=min ((ag s.ws a).nZ+1) 7:=hA
 obtain⟨T,hT⟩: ∃T,T=s.kD a:=⟨_,rfl⟩
 obtain⟨B,hB⟩: ∃B,B=s.lD a:=⟨_,rfl⟩
 have hT1:T=s.lX n A:=by rw[hT,hA,hnw];rfl
 have hB1:B=(s.lW n A).isSome:=by rw[hB,hA,hnw];rfl
 have hpl:=fun W h (hW:In W h) (hc:ah pc L s h)=>Ji pc L s n A W h hW hc (by omega) (by omega) h3
 rw[<-hT1,<-hB1]at hpl
 obtain⟨s1,hs1⟩: ∃s1,s1=s.placed n A:=⟨_,rfl⟩
 rw[<-hs1]at hpl
 obtain⟨e1,e2,e3,e4,e5,e6⟩:=GH s n A
 rw[<-hs1]at e1 e2 e3 e4 e5 e6
 obtain⟨X,hX⟩: ∃X,X=s.sO a:=⟨_,rfl⟩
 have hX1:X=if s.phase=1 then {ag s.ws a with nZ:=A,old:=B}else {ag s.ws a with nZ:=A,old:=B,parity:=s.parity,dh:=false}:=by rw[hX,hA,hB];rfl
 have hmv:s.moved a={s1 with ws:=jZ s.ws a T X,copied:=wrap64 (s.copied+n),done:=if B then {s.done with promoted:=wrap64 (s.done.promoted+n)}else s.done,row:=if B then s.row++[T]else s.row}:=by
  rw[hs1,hT,hX,hB,hnw,hA]
  rfl
 rw[hmv,<-hT]
 rw[<-hT]at hto
 generalize hH:ag s.ws a=H at*
 have hwx: ∀W,Calls Tryz.prog 77 #[.agg (aF {H with nZ:=A})] W fun e w'=>e= .returned (.int .i64 n)/\aj [] [] W w':=fun W=>by
  have:=mM {H with nZ:=A} ⟨g1,g2,g3,g4,by show 0<=A;omega,by show A<=7;omega,g7⟩ W
  rw[hnw]
  exact this
 have hom:=fun W h (hW:In W h) (hg:X.Good) (ha:dZ L.pa s.ws h)=>Po L.pa s.ws a T X hg W h hW ha
 obtain⟨x1,x2,x3,x4,x5,x6,x7⟩:=H
 simp only at g1 g2 g3 g4 g5 g6 g7 hnn hA1
 have hst: ∃v ha hy ho hr hg ht hw,h=(aI pc (bG L s v) ha hy ho hr hg ht hw).flatten/\gy L.py s.y hy:=by
  obtain⟨v,ha,hy,ho,hr,hg,ht,hw,rfl,ca,cy,co,cr,cg,ct,cw⟩:=hc
  exact⟨v,ha,hy,ho,hr,hg,ht,hw,rfl,cy⟩
 obtain⟨v0,ha0,hy0,ho0,hr0,hg0,ht0,hw0,hh0,Wj⟩:=hst
 have jg:=qX L.py s.y a w hy0 (by rw[hh0]at hi;exact In.fG (x:=[]) hi) Wj hb
 rw[hf]at jg
 have p2:w.cell? ⟨pc,14,none⟩=some (ptr L.py):=by rw[hh0]at hi;exact(aS (In.core (x:=[]) hi)).2.1
 have EY:Hid (∀w1,aj hy0 hy0 w w1->aj h h w w1):=Lib.hid (by
  intro w1 u1
  rw[hh0]at hi⊢
  exact aj.fG (x:=[]) (aj.refl hi) u1)
 clear hh0 Wj h0 hf hn hA hnw hT hB hT1 hB1 hmv hX hs1 h3 U0
 have xR:=Lib.hid e1
 have HE2:=Lib.hid e2
 have TG:=Lib.hid e3
 have IQ:=Lib.hid e4
 have IU:=Lib.hid e5
 have TI:=Lib.hid e6
 have HX:=Lib.hid hX1
 have HH:=Lib.hid hH
 clear e1 e2 e3 e4 e5 e6 hX1 hH
 have Ox:=Lib.hid hom
 have TJ:=Lib.hid hpl
 have TK:=Lib.hid hhd
 have QO:=Lib.hid dQ
 have Dq:=Lib.hid hc
 have HI0:=Lib.hid hi
 have hrow2:s.row.length<=1000000:=hrow
 clear hom hpl hhd dQ hc hi
 simp only[aF]at*
 simp only[ptr]at*
 have hn2:2<=n:=by omega
 have hn66:n<=66:=by omega
 clear hnn
 have Yi:(x3<=6/\A=x3+1)∨(x3=7/\A=7):=by omega
 clear hA1
 rcases Yi with⟨hx,rfl⟩|⟨rfl,rfl⟩
 ·by_cases hp:s.phase=1
  ·have hq2:s.phase=1:=hp
   have Jk:Hid (X=⟨x1,x2,(x3+1),x4,x5,x6,B⟩):=Lib.hid (by rw[HX.out,if_pos hq2])
   rw[hp]at xR
   have XG:Hid X.Good:=Lib.hid (by rw[Jk.out];exact⟨g1,g2,g3,g4,by show(0:Int)<=(x3+1);omega,by show((x3+1):Int)<=7;omega,g7⟩)
   clear hq2 hp HX
   have UJ:=Jk.out
   clear Jk
   subst UJ
   simp only[aF]at Ox
   clear hpar g7
   cases B
   ·simp only[Bool.false_eq_true,if_false,if_true]
    rw[<-IU.out,<-TI.out]
    go_enter Tryz.func100,Tryz.ntmps100
    go_wp2_with(first
    | (go_at_call 44;refine Calls.mono jg ?_;rintro e w1 ⟨rfl,u1⟩;have U1:=Lib.hid (EY.out _ u1);clear jg u1 p2)
    | (go_at_call 78;refine Calls.mono (QO.out _ _ U1.out.au Dq.out) ?_;rintro e w2 ⟨rfl,h2,c2,u2⟩;have U2:=Lib.hid (U1.out.trans u2);have C2:=Lib.hid c2;clear u2 c2)
    | (go_at_call 110;refine Calls.mono (TK.out _ _ U2.out.au C2.out) ?_;rintro e w3 ⟨rfl,h3,c3,u3⟩;have hpb:pc<w3.heap.size:=World.block_lt_of_cell? _ _ (ah.ptrs (x:=[]) c3 u3.au).1;have U3:=Lib.hid ((U2.out.trans u3).alloc' (.cells #[.int .i64 x1, .int .i64 x2, .int .i64 (x3+1), .int .i64 x4, .bool x5, .bool x6, .bool x7] 92 (0,0)));have C3:=Lib.hid c3;clear u3 c3)
    | (go_at_call 77;refine Calls.mono (hwx _) ?_;rintro e w4 ⟨rfl,u4⟩;have U4:=Lib.hid (U3.out.dK u4);have A8:=cell_of U4.out.au.head 2;simp only[List.getElem?_toArray,List.getElem?_cons_succ,List.getElem?_cons_zero]at A8;clear u4)
    | (go_at_call 138;refine Calls.mono (TJ.out _ _ U4.out.au.tail C3.out) ?_;rintro e w5 ⟨rfl,h5,⟨v5,AZ,vK,vM,vN,hg5,vX,hw5,rfl,rD,yM,zU,zV,yL,zW,xQ⟩,u5⟩;have U5:=Lib.hid (U4.out.under u5);
        have bx0:=cell_of U5.out.au.head 0;have bx1:=cell_of U5.out.au.head 1;have A_:=cell_of U5.out.au.head 2;have Ba:=cell_of U5.out.au.head 3;have Bc:=cell_of U5.out.au.head 4;have Bd:=cell_of U5.out.au.head 5;have Be:=cell_of U5.out.au.head 6;
        have Jl:=aO U5.out.au.head 3;have Jm:=aO U5.out.au.head 4;have Jn:=aO U5.out.au.head 6;
        obtain⟨r1,r2,r3,r4,r5,r6⟩:=iP (In.core (x:=[_]) U5.out.au);rw[xR.out]at r2;rw[HE2.out]at r1;rw[IQ.out]at r5;clear r3 r4 r6;clear u5;
        have wQ:=(aS (In.core (x:=[_]) U5.out.au)).1;simp only[ptr]at wQ;
        simp only[List.getElem?_toArray,List.getElem?_cons_succ,List.getElem?_cons_zero]at bx0 bx1 A_ Ba Bc Bd Be;clear A8))
    have U7:aj h ((w3.heap.size, .cells #[.int .i64 x1, .int .i64 x2, .int .i64 (x3+1), .int .i64 x4, .bool x5, .bool x6, .bool false] 92 (0,0))::(aI pc (bG L s1 v5) AZ vK vM vN hg5 vX hw5).flatten) w (w5.setCell ⟨w3.heap.size,6,none⟩ (.bool false)).drew:=(U5.out.store1 6 (.bool false)).drew'
    generalize w3.heap.size=lb at*
    refine eP 7 (by kernel_rfl) (by kernel_rfl) fun w7 hw7=> ?_
    subst hw7
    generalize (w5.setCell ⟨w3.heap.size,6,none⟩ (.bool false)).drew=w7 at*
    have z0:=cell_of U7.au.head 0
    have z1:=cell_of U7.au.head 1
    have z2:=cell_of U7.au.head 2
    have z3:=cell_of U7.au.head 3
    have z4:=cell_of U7.au.head 4
    have z5:=cell_of U7.au.head 5
    have z6:=cell_of U7.au.head 6
    simp only[List.getElem?_toArray,List.getElem?_cons_succ,List.getElem?_cons_zero]at z0 z1 z2 z3 z4 z5 z6
    have Bf:=(aS (In.core (x:=[_]) U7.au)).1
    simp only[ptr]at Bf
    have Bg:=Lib.hid U7
    clear U7 bx0 bx1 A_ Ba Bc Bd Be Jl Jm Jn r1 r2 r5 wQ
    simp only[List.take_succ_cons,List.take_zero,List.drop_succ_cons,List.drop_zero]
    repeat(refine wpStill_step (fun K hK=> ?_);have HK:=Lib.hid hK;clear hK;go_simp;refine HK.out _ ?_;clear HK K)
    refine wpStill_nil ?_
    go_wp2_with(first
     | (go_at_call 139;refine Calls.mono (Ox.out _ _ (In.arena (x:=[_]) Bg.out.au) XG.out (by first|exact rD|(rw[TG.out]at rD;exact rD))) ?_;rintro e w8 ⟨rfl,Jo,ca8,u8⟩;have U8:=Lib.hid (aj.arena (x:=[_]) Bg.out u8);
         have k23:=bU (In.core (x:=[_]) U8.out.au) 23;have k25:=bU (In.core (x:=[_]) U8.out.au) 25;have k28:=bU (In.core (x:=[_]) U8.out.au) 28;
         have y23:=aZ (In.core (x:=[_]) U8.out.au) 23;have y25:=aZ (In.core (x:=[_]) U8.out.au) 25;have y28:=aZ (In.core (x:=[_]) U8.out.au) 28;
         simp only[gm,List.getElem?_toArray,List.getElem?_cons_succ,List.getElem?_cons_zero,IQ.out]at k23 k25 k28;clear u8 z0 z1 z2 z3 z4 z5 z6 Bf))
    have U9:=aj.iM (x:=[_]) U8.out (wrap64 (s.copied+n))
    go_ret
    exact⟨rfl,_,⟨v5,Jo,vK,vM,vN,hg5,vX,hw5,rfl,ca8,yM,zU,zV,yL,zW,xQ⟩,U9.drop1⟩
   ·simp only[Bool.false_eq_true,if_false,if_true]
    rw[<-IU.out,<-TI.out]
    go_enter Tryz.func100,Tryz.ntmps100
    go_wp2_with(first
    | (go_at_call 44;refine Calls.mono jg ?_;rintro e w1 ⟨rfl,u1⟩;have U1:=Lib.hid (EY.out _ u1);clear jg u1 p2)
    | (go_at_call 78;refine Calls.mono (QO.out _ _ U1.out.au Dq.out) ?_;rintro e w2 ⟨rfl,h2,c2,u2⟩;have U2:=Lib.hid (U1.out.trans u2);have C2:=Lib.hid c2;clear u2 c2)
    | (go_at_call 110;refine Calls.mono (TK.out _ _ U2.out.au C2.out) ?_;rintro e w3 ⟨rfl,h3,c3,u3⟩;have hpb:pc<w3.heap.size:=World.block_lt_of_cell? _ _ (ah.ptrs (x:=[]) c3 u3.au).1;have U3:=Lib.hid ((U2.out.trans u3).alloc' (.cells #[.int .i64 x1, .int .i64 x2, .int .i64 (x3+1), .int .i64 x4, .bool x5, .bool x6, .bool x7] 92 (0,0)));have C3:=Lib.hid c3;clear u3 c3)
    | (go_at_call 77;refine Calls.mono (hwx _) ?_;rintro e w4 ⟨rfl,u4⟩;have U4:=Lib.hid (U3.out.dK u4);have A8:=cell_of U4.out.au.head 2;simp only[List.getElem?_toArray,List.getElem?_cons_succ,List.getElem?_cons_zero]at A8;clear u4)
    | (go_at_call 138;refine Calls.mono (TJ.out _ _ U4.out.au.tail C3.out) ?_;rintro e w5 ⟨rfl,h5,⟨v5,AZ,vK,vM,vN,hg5,vX,hw5,rfl,rD,yM,zU,zV,yL,zW,xQ⟩,u5⟩;have U5:=Lib.hid (U4.out.under u5);
        have bx0:=cell_of U5.out.au.head 0;have bx1:=cell_of U5.out.au.head 1;have A_:=cell_of U5.out.au.head 2;have Ba:=cell_of U5.out.au.head 3;have Bc:=cell_of U5.out.au.head 4;have Bd:=cell_of U5.out.au.head 5;have Be:=cell_of U5.out.au.head 6;
        have Jl:=aO U5.out.au.head 3;have Jm:=aO U5.out.au.head 4;have Jn:=aO U5.out.au.head 6;
        obtain⟨r1,r2,r3,r4,r5,r6⟩:=iP (In.core (x:=[_]) U5.out.au);rw[xR.out]at r2;rw[HE2.out]at r1;rw[IQ.out]at r5;clear r3 r4 r6;clear u5;
        have wQ:=(aS (In.core (x:=[_]) U5.out.au)).1;simp only[ptr]at wQ;
        simp only[List.getElem?_toArray,List.getElem?_cons_succ,List.getElem?_cons_zero]at bx0 bx1 A_ Ba Bc Bd Be;clear A8))
    have U7:aj h ((w3.heap.size, .cells #[.int .i64 x1, .int .i64 x2, .int .i64 (x3+1), .int .i64 x4, .bool x5, .bool x6, .bool true] 92 (0,0))::(aI pc (bG L s1 v5) AZ vK vM vN hg5 vX hw5).flatten) w (w5.setCell ⟨w3.heap.size,6,none⟩ (.bool true)).drew:=(U5.out.store1 6 (.bool true)).drew'
    generalize w3.heap.size=lb at*
    refine eP 7 (by kernel_rfl) (by kernel_rfl) fun w7 hw7=> ?_
    subst hw7
    generalize (w5.setCell ⟨w3.heap.size,6,none⟩ (.bool true)).drew=w7 at*
    have z0:=cell_of U7.au.head 0
    have z1:=cell_of U7.au.head 1
    have z2:=cell_of U7.au.head 2
    have z3:=cell_of U7.au.head 3
    have z4:=cell_of U7.au.head 4
    have z5:=cell_of U7.au.head 5
    have z6:=cell_of U7.au.head 6
    simp only[List.getElem?_toArray,List.getElem?_cons_succ,List.getElem?_cons_zero]at z0 z1 z2 z3 z4 z5 z6
    have Bf:=(aS (In.core (x:=[_]) U7.au)).1
    simp only[ptr]at Bf
    have Bg:=Lib.hid U7
    clear U7 bx0 bx1 A_ Ba Bc Bd Be Jl Jm Jn r1 r2 r5 wQ
    simp only[List.take_succ_cons,List.take_zero,List.drop_succ_cons,List.drop_zero]
    repeat(refine wpStill_step (fun K hK=> ?_);have HK:=Lib.hid hK;clear hK;go_simp;refine HK.out _ ?_;clear HK K)
    refine wpStill_nil ?_
    go_wp2_with(first
     | (go_at_call 139;refine Calls.mono (Ox.out _ _ (In.arena (x:=[_]) Bg.out.au) XG.out (by first|exact rD|(rw[TG.out]at rD;exact rD))) ?_;rintro e w8 ⟨rfl,Jo,ca8,u8⟩;have U8:=Lib.hid (aj.arena (x:=[_]) Bg.out u8);
         have k23:=bU (In.core (x:=[_]) U8.out.au) 23;have k25:=bU (In.core (x:=[_]) U8.out.au) 25;have k28:=bU (In.core (x:=[_]) U8.out.au) 28;
         have y23:=aZ (In.core (x:=[_]) U8.out.au) 23;have y25:=aZ (In.core (x:=[_]) U8.out.au) 25;have y28:=aZ (In.core (x:=[_]) U8.out.au) 28;
         simp only[gm,List.getElem?_toArray,List.getElem?_cons_succ,List.getElem?_cons_zero,IQ.out]at k23 k25 k28;clear u8 z0 z1 z2 z3 z4 z5 z6 Bf)
     | (at_builtin;(have UX:=Lib.hid ((aj.n_ (x:=[_]) (aj.iM (x:=[_]) U8.out (wrap64 (s.copied+n))) (wrap64 (s1.done.promoted+n))).skip' (.cells #[.int .i64 T] 3 (0,0))));(obtain⟨UK,Jp,hvR,hcR⟩:=xQ.shape);subst hvR;(have UM:=Lib.hid (kF (news:=[.int .i64 T]) (w:=(((w8.setCell ⟨pc,23,none⟩ (.int .i64 (wrap64 (s.copied+n)))).setCell ⟨pc,28,none⟩ (.int .i64 (wrap64 (s1.done.promoted+n)))).alloc (.cells #[.int .i64 T] 3 (0,0)))) (b:=w8.heap.size) (T:=3) (fr:=(0,0)) (aV (by simp))));refine cO rfl (.tmp 95) (.tmp 97) 41 rfl 3 1 8 (.int .i64 0) Tryz.underlying41 Tryz.kG rfl (by decide) (.slice UK s1.row.length Jp) s1.row.length (ints s1.row) hw5 rfl xQ (In.rows (x:=[_]) UX.out.au) ⟨w8.heap.size,0,none⟩ 1 1 [.int .i64 T] rfl UM.out rfl (by intro u hu;simp at hu;subst hu;rfl) (Or.inl (by decide)) (by rw[IU.out];unfold maxLen;omega) (by rw[IU.out];omega) ?_;intro v' Yj hX' hS' qG;(obtain⟨ao',cap',UO,_⟩:=hS'.shape);subst UO;have UY:=Lib.hid (aj.rows (x:=[_]) UX.out qG);have SX:=Lib.hid hS';have yy:=aZ (In.core (x:=[_]) UY.out.au) 25;have kk:=bU (In.core (x:=[_]) UY.out.au) 25;simp only[gm,List.getElem?_toArray,List.getElem?_cons_succ,List.getElem?_cons_zero]at kk;clear hS' qG))
    have UQ:=aj.core (x:=[_]) UY.out 25 (.slice ao' (s1.row.length+1) cap')
    go_ret
    refine⟨rfl,_,⟨.slice ao' (s1.row.length+1) cap',Jo,vK,vM,vN,hg5,vX,hX',rfl,ca8,yM,zU,zV,yL,zW, ?_⟩,(UQ.drop1:_)⟩
    have:=SX.out
    simpa[ints]using this
  ·have hq2:(s.phase !=1)=true:=by simpa using hp
   have Jk:Hid (X=⟨x1,x2,(x3+1),s.parity,false,x6,B⟩):=Lib.hid (by rw[HX.out,if_neg hp])
   have XG:Hid X.Good:=Lib.hid (by rw[Jk.out];exact⟨g1,g2,g3,g4,by show(0:Int)<=(x3+1);omega,by show((x3+1):Int)<=7;omega,hpar⟩)
   clear hp HX
   have UJ:=Jk.out
   clear Jk
   subst UJ
   simp only[aF]at Ox
   clear hpar g7
   cases B
   ·simp only[Bool.false_eq_true,if_false,if_true]
    rw[<-IU.out,<-TI.out]
    go_enter Tryz.func100,Tryz.ntmps100
    go_wp2_with(first
    | (go_at_call 44;refine Calls.mono jg ?_;rintro e w1 ⟨rfl,u1⟩;have U1:=Lib.hid (EY.out _ u1);clear jg u1 p2)
    | (go_at_call 78;refine Calls.mono (QO.out _ _ U1.out.au Dq.out) ?_;rintro e w2 ⟨rfl,h2,c2,u2⟩;have U2:=Lib.hid (U1.out.trans u2);have C2:=Lib.hid c2;clear u2 c2)
    | (go_at_call 110;refine Calls.mono (TK.out _ _ U2.out.au C2.out) ?_;rintro e w3 ⟨rfl,h3,c3,u3⟩;have hpb:pc<w3.heap.size:=World.block_lt_of_cell? _ _ (ah.ptrs (x:=[]) c3 u3.au).1;have U3:=Lib.hid ((U2.out.trans u3).alloc' (.cells #[.int .i64 x1, .int .i64 x2, .int .i64 (x3+1), .int .i64 x4, .bool x5, .bool x6, .bool x7] 92 (0,0)));have C3:=Lib.hid c3;clear u3 c3)
    | (go_at_call 77;refine Calls.mono (hwx _) ?_;rintro e w4 ⟨rfl,u4⟩;have U4:=Lib.hid (U3.out.dK u4);have A8:=cell_of U4.out.au.head 2;simp only[List.getElem?_toArray,List.getElem?_cons_succ,List.getElem?_cons_zero]at A8;clear u4)
    | (go_at_call 138;refine Calls.mono (TJ.out _ _ U4.out.au.tail C3.out) ?_;rintro e w5 ⟨rfl,h5,⟨v5,AZ,vK,vM,vN,hg5,vX,hw5,rfl,rD,yM,zU,zV,yL,zW,xQ⟩,u5⟩;have U5:=Lib.hid (U4.out.under u5);
        have bx0:=cell_of U5.out.au.head 0;have bx1:=cell_of U5.out.au.head 1;have A_:=cell_of U5.out.au.head 2;have Ba:=cell_of U5.out.au.head 3;have Bc:=cell_of U5.out.au.head 4;have Bd:=cell_of U5.out.au.head 5;have Be:=cell_of U5.out.au.head 6;
        have Jl:=aO U5.out.au.head 3;have Jm:=aO U5.out.au.head 4;have Jn:=aO U5.out.au.head 6;
        obtain⟨r1,r2,r3,r4,r5,r6⟩:=iP (In.core (x:=[_]) U5.out.au);rw[xR.out]at r2;rw[HE2.out]at r1;rw[IQ.out]at r5;clear r3 r4 r6;clear u5;
        have wQ:=(aS (In.core (x:=[_]) U5.out.au)).1;simp only[ptr]at wQ;
        simp only[List.getElem?_toArray,List.getElem?_cons_succ,List.getElem?_cons_zero]at bx0 bx1 A_ Ba Bc Bd Be;clear A8))
    have U7:aj h ((w3.heap.size, .cells #[.int .i64 x1, .int .i64 x2, .int .i64 (x3+1), .int .i64 s.parity, .bool false, .bool x6, .bool false] 92 (0,0))::(aI pc (bG L s1 v5) AZ vK vM vN hg5 vX hw5).flatten) w (((w5.setCell ⟨w3.heap.size,6,none⟩ (.bool false)).setCell ⟨w3.heap.size,3,none⟩ (.int .i64 s.parity)).setCell ⟨w3.heap.size,4,none⟩ (.bool false)).drew:=(((U5.out.store1 6 (.bool false)).store1 3 (.int .i64 s.parity)).store1 4 (.bool false)).drew'
    generalize w3.heap.size=lb at*
    refine eP 7 (by kernel_rfl) (by kernel_rfl) fun w7 hw7=> ?_
    subst hw7
    generalize (((w5.setCell ⟨w3.heap.size,6,none⟩ (.bool false)).setCell ⟨w3.heap.size,3,none⟩ (.int .i64 s.parity)).setCell ⟨w3.heap.size,4,none⟩ (.bool false)).drew=w7 at*
    have z0:=cell_of U7.au.head 0
    have z1:=cell_of U7.au.head 1
    have z2:=cell_of U7.au.head 2
    have z3:=cell_of U7.au.head 3
    have z4:=cell_of U7.au.head 4
    have z5:=cell_of U7.au.head 5
    have z6:=cell_of U7.au.head 6
    simp only[List.getElem?_toArray,List.getElem?_cons_succ,List.getElem?_cons_zero]at z0 z1 z2 z3 z4 z5 z6
    have Bf:=(aS (In.core (x:=[_]) U7.au)).1
    simp only[ptr]at Bf
    have Bg:=Lib.hid U7
    clear U7 bx0 bx1 A_ Ba Bc Bd Be Jl Jm Jn r1 r2 r5 wQ
    simp only[List.take_succ_cons,List.take_zero,List.drop_succ_cons,List.drop_zero]
    repeat(refine wpStill_step (fun K hK=> ?_);have HK:=Lib.hid hK;clear hK;go_simp;refine HK.out _ ?_;clear HK K)
    refine wpStill_nil ?_
    go_wp2_with(first
     | (go_at_call 139;refine Calls.mono (Ox.out _ _ (In.arena (x:=[_]) Bg.out.au) XG.out (by first|exact rD|(rw[TG.out]at rD;exact rD))) ?_;rintro e w8 ⟨rfl,Jo,ca8,u8⟩;have U8:=Lib.hid (aj.arena (x:=[_]) Bg.out u8);
         have k23:=bU (In.core (x:=[_]) U8.out.au) 23;have k25:=bU (In.core (x:=[_]) U8.out.au) 25;have k28:=bU (In.core (x:=[_]) U8.out.au) 28;
         have y23:=aZ (In.core (x:=[_]) U8.out.au) 23;have y25:=aZ (In.core (x:=[_]) U8.out.au) 25;have y28:=aZ (In.core (x:=[_]) U8.out.au) 28;
         simp only[gm,List.getElem?_toArray,List.getElem?_cons_succ,List.getElem?_cons_zero,IQ.out]at k23 k25 k28;clear u8 z0 z1 z2 z3 z4 z5 z6 Bf))
    have U9:=aj.iM (x:=[_]) U8.out (wrap64 (s.copied+n))
    go_ret
    exact⟨rfl,_,⟨v5,Jo,vK,vM,vN,hg5,vX,hw5,rfl,ca8,yM,zU,zV,yL,zW,xQ⟩,U9.drop1⟩
   ·simp only[Bool.false_eq_true,if_false,if_true]
    rw[<-IU.out,<-TI.out]
    go_enter Tryz.func100,Tryz.ntmps100
    go_wp2_with(first
    | (go_at_call 44;refine Calls.mono jg ?_;rintro e w1 ⟨rfl,u1⟩;have U1:=Lib.hid (EY.out _ u1);clear jg u1 p2)
    | (go_at_call 78;refine Calls.mono (QO.out _ _ U1.out.au Dq.out) ?_;rintro e w2 ⟨rfl,h2,c2,u2⟩;have U2:=Lib.hid (U1.out.trans u2);have C2:=Lib.hid c2;clear u2 c2)
    | (go_at_call 110;refine Calls.mono (TK.out _ _ U2.out.au C2.out) ?_;rintro e w3 ⟨rfl,h3,c3,u3⟩;have hpb:pc<w3.heap.size:=World.block_lt_of_cell? _ _ (ah.ptrs (x:=[]) c3 u3.au).1;have U3:=Lib.hid ((U2.out.trans u3).alloc' (.cells #[.int .i64 x1, .int .i64 x2, .int .i64 (x3+1), .int .i64 x4, .bool x5, .bool x6, .bool x7] 92 (0,0)));have C3:=Lib.hid c3;clear u3 c3)
    | (go_at_call 77;refine Calls.mono (hwx _) ?_;rintro e w4 ⟨rfl,u4⟩;have U4:=Lib.hid (U3.out.dK u4);have A8:=cell_of U4.out.au.head 2;simp only[List.getElem?_toArray,List.getElem?_cons_succ,List.getElem?_cons_zero]at A8;clear u4)
    | (go_at_call 138;refine Calls.mono (TJ.out _ _ U4.out.au.tail C3.out) ?_;rintro e w5 ⟨rfl,h5,⟨v5,AZ,vK,vM,vN,hg5,vX,hw5,rfl,rD,yM,zU,zV,yL,zW,xQ⟩,u5⟩;have U5:=Lib.hid (U4.out.under u5);
        have bx0:=cell_of U5.out.au.head 0;have bx1:=cell_of U5.out.au.head 1;have A_:=cell_of U5.out.au.head 2;have Ba:=cell_of U5.out.au.head 3;have Bc:=cell_of U5.out.au.head 4;have Bd:=cell_of U5.out.au.head 5;have Be:=cell_of U5.out.au.head 6;
        have Jl:=aO U5.out.au.head 3;have Jm:=aO U5.out.au.head 4;have Jn:=aO U5.out.au.head 6;
        obtain⟨r1,r2,r3,r4,r5,r6⟩:=iP (In.core (x:=[_]) U5.out.au);rw[xR.out]at r2;rw[HE2.out]at r1;rw[IQ.out]at r5;clear r3 r4 r6;clear u5;
        have wQ:=(aS (In.core (x:=[_]) U5.out.au)).1;simp only[ptr]at wQ;
        simp only[List.getElem?_toArray,List.getElem?_cons_succ,List.getElem?_cons_zero]at bx0 bx1 A_ Ba Bc Bd Be;clear A8))
    have U7:aj h ((w3.heap.size, .cells #[.int .i64 x1, .int .i64 x2, .int .i64 (x3+1), .int .i64 s.parity, .bool false, .bool x6, .bool true] 92 (0,0))::(aI pc (bG L s1 v5) AZ vK vM vN hg5 vX hw5).flatten) w (((w5.setCell ⟨w3.heap.size,6,none⟩ (.bool true)).setCell ⟨w3.heap.size,3,none⟩ (.int .i64 s.parity)).setCell ⟨w3.heap.size,4,none⟩ (.bool false)).drew:=(((U5.out.store1 6 (.bool true)).store1 3 (.int .i64 s.parity)).store1 4 (.bool false)).drew'
    generalize w3.heap.size=lb at*
    refine eP 7 (by kernel_rfl) (by kernel_rfl) fun w7 hw7=> ?_
    subst hw7
    generalize (((w5.setCell ⟨w3.heap.size,6,none⟩ (.bool true)).setCell ⟨w3.heap.size,3,none⟩ (.int .i64 s.parity)).setCell ⟨w3.heap.size,4,none⟩ (.bool false)).drew=w7 at*
    have z0:=cell_of U7.au.head 0
    have z1:=cell_of U7.au.head 1
    have z2:=cell_of U7.au.head 2
    have z3:=cell_of U7.au.head 3
    have z4:=cell_of U7.au.head 4
    have z5:=cell_of U7.au.head 5
    have z6:=cell_of U7.au.head 6
    simp only[List.getElem?_toArray,List.getElem?_cons_succ,List.getElem?_cons_zero]at z0 z1 z2 z3 z4 z5 z6
    have Bf:=(aS (In.core (x:=[_]) U7.au)).1
    simp only[ptr]at Bf
    have Bg:=Lib.hid U7
    clear U7 bx0 bx1 A_ Ba Bc Bd Be Jl Jm Jn r1 r2 r5 wQ
    simp only[List.take_succ_cons,List.take_zero,List.drop_succ_cons,List.drop_zero]
    repeat(refine wpStill_step (fun K hK=> ?_);have HK:=Lib.hid hK;clear hK;go_simp;refine HK.out _ ?_;clear HK K)
    refine wpStill_nil ?_
    go_wp2_with(first
     | (go_at_call 139;refine Calls.mono (Ox.out _ _ (In.arena (x:=[_]) Bg.out.au) XG.out (by first|exact rD|(rw[TG.out]at rD;exact rD))) ?_;rintro e w8 ⟨rfl,Jo,ca8,u8⟩;have U8:=Lib.hid (aj.arena (x:=[_]) Bg.out u8);
         have k23:=bU (In.core (x:=[_]) U8.out.au) 23;have k25:=bU (In.core (x:=[_]) U8.out.au) 25;have k28:=bU (In.core (x:=[_]) U8.out.au) 28;
         have y23:=aZ (In.core (x:=[_]) U8.out.au) 23;have y25:=aZ (In.core (x:=[_]) U8.out.au) 25;have y28:=aZ (In.core (x:=[_]) U8.out.au) 28;
         simp only[gm,List.getElem?_toArray,List.getElem?_cons_succ,List.getElem?_cons_zero,IQ.out]at k23 k25 k28;clear u8 z0 z1 z2 z3 z4 z5 z6 Bf)
     | (at_builtin;(have UX:=Lib.hid ((aj.n_ (x:=[_]) (aj.iM (x:=[_]) U8.out (wrap64 (s.copied+n))) (wrap64 (s1.done.promoted+n))).skip' (.cells #[.int .i64 T] 3 (0,0))));(obtain⟨UK,Jp,hvR,hcR⟩:=xQ.shape);subst hvR;(have UM:=Lib.hid (kF (news:=[.int .i64 T]) (w:=(((w8.setCell ⟨pc,23,none⟩ (.int .i64 (wrap64 (s.copied+n)))).setCell ⟨pc,28,none⟩ (.int .i64 (wrap64 (s1.done.promoted+n)))).alloc (.cells #[.int .i64 T] 3 (0,0)))) (b:=w8.heap.size) (T:=3) (fr:=(0,0)) (aV (by simp))));refine cO rfl (.tmp 95) (.tmp 97) 41 rfl 3 1 8 (.int .i64 0) Tryz.underlying41 Tryz.kG rfl (by decide) (.slice UK s1.row.length Jp) s1.row.length (ints s1.row) hw5 rfl xQ (In.rows (x:=[_]) UX.out.au) ⟨w8.heap.size,0,none⟩ 1 1 [.int .i64 T] rfl UM.out rfl (by intro u hu;simp at hu;subst hu;rfl) (Or.inl (by decide)) (by rw[IU.out];unfold maxLen;omega) (by rw[IU.out];omega) ?_;intro v' Yj hX' hS' qG;(obtain⟨ao',cap',UO,_⟩:=hS'.shape);subst UO;have UY:=Lib.hid (aj.rows (x:=[_]) UX.out qG);have SX:=Lib.hid hS';have yy:=aZ (In.core (x:=[_]) UY.out.au) 25;have kk:=bU (In.core (x:=[_]) UY.out.au) 25;simp only[gm,List.getElem?_toArray,List.getElem?_cons_succ,List.getElem?_cons_zero]at kk;clear hS' qG))
    have UQ:=aj.core (x:=[_]) UY.out 25 (.slice ao' (s1.row.length+1) cap')
    go_ret
    refine⟨rfl,_,⟨.slice ao' (s1.row.length+1) cap',Jo,vK,vM,vN,hg5,vX,hX',rfl,ca8,yM,zU,zV,yL,zW, ?_⟩,(UQ.drop1:_)⟩
    have:=SX.out
    simpa[ints]using this
 ·by_cases hp:s.phase=1
  ·have hq2:s.phase=1:=hp
   have Jk:Hid (X=⟨x1,x2,7,x4,x5,x6,B⟩):=Lib.hid (by rw[HX.out,if_pos hq2])
   rw[hp]at xR
   have XG:Hid X.Good:=Lib.hid (by rw[Jk.out];exact⟨g1,g2,g3,g4,by show(0:Int)<=7;omega,by show(7:Int)<=7;omega,g7⟩)
   clear hq2 hp HX
   have UJ:=Jk.out
   clear Jk
   subst UJ
   simp only[aF]at Ox
   clear hpar g7
   cases B
   ·simp only[Bool.false_eq_true,if_false,if_true]
    rw[<-IU.out,<-TI.out]
    go_enter Tryz.func100,Tryz.ntmps100
    go_wp2_with(first
    | (go_at_call 44;refine Calls.mono jg ?_;rintro e w1 ⟨rfl,u1⟩;have U1:=Lib.hid (EY.out _ u1);clear jg u1 p2)
    | (go_at_call 78;refine Calls.mono (QO.out _ _ U1.out.au Dq.out) ?_;rintro e w2 ⟨rfl,h2,c2,u2⟩;have U2:=Lib.hid (U1.out.trans u2);have C2:=Lib.hid c2;clear u2 c2)
    | (go_at_call 110;refine Calls.mono (TK.out _ _ U2.out.au C2.out) ?_;rintro e w3 ⟨rfl,h3,c3,u3⟩;have hpb:pc<w3.heap.size:=World.block_lt_of_cell? _ _ (ah.ptrs (x:=[]) c3 u3.au).1;have U3:=Lib.hid ((U2.out.trans u3).alloc' (.cells #[.int .i64 x1, .int .i64 x2, .int .i64 7, .int .i64 x4, .bool x5, .bool x6, .bool x7] 92 (0,0)));have C3:=Lib.hid c3;clear u3 c3)
    | (go_at_call 77;refine Calls.mono (hwx _) ?_;rintro e w4 ⟨rfl,u4⟩;have U4:=Lib.hid (U3.out.dK u4);have A8:=cell_of U4.out.au.head 2;simp only[List.getElem?_toArray,List.getElem?_cons_succ,List.getElem?_cons_zero]at A8;clear u4)
    | (go_at_call 138;refine Calls.mono (TJ.out _ _ U4.out.au.tail C3.out) ?_;rintro e w5 ⟨rfl,h5,⟨v5,AZ,vK,vM,vN,hg5,vX,hw5,rfl,rD,yM,zU,zV,yL,zW,xQ⟩,u5⟩;have U5:=Lib.hid (U4.out.under u5);
        have bx0:=cell_of U5.out.au.head 0;have bx1:=cell_of U5.out.au.head 1;have A_:=cell_of U5.out.au.head 2;have Ba:=cell_of U5.out.au.head 3;have Bc:=cell_of U5.out.au.head 4;have Bd:=cell_of U5.out.au.head 5;have Be:=cell_of U5.out.au.head 6;
        have Jl:=aO U5.out.au.head 3;have Jm:=aO U5.out.au.head 4;have Jn:=aO U5.out.au.head 6;
        obtain⟨r1,r2,r3,r4,r5,r6⟩:=iP (In.core (x:=[_]) U5.out.au);rw[xR.out]at r2;rw[HE2.out]at r1;rw[IQ.out]at r5;clear r3 r4 r6;clear u5;
        have wQ:=(aS (In.core (x:=[_]) U5.out.au)).1;simp only[ptr]at wQ;
        simp only[List.getElem?_toArray,List.getElem?_cons_succ,List.getElem?_cons_zero]at bx0 bx1 A_ Ba Bc Bd Be;clear A8))
    have U7:aj h ((w3.heap.size, .cells #[.int .i64 x1, .int .i64 x2, .int .i64 7, .int .i64 x4, .bool x5, .bool x6, .bool false] 92 (0,0))::(aI pc (bG L s1 v5) AZ vK vM vN hg5 vX hw5).flatten) w (w5.setCell ⟨w3.heap.size,6,none⟩ (.bool false)).drew:=(U5.out.store1 6 (.bool false)).drew'
    generalize w3.heap.size=lb at*
    refine eP 7 (by kernel_rfl) (by kernel_rfl) fun w7 hw7=> ?_
    subst hw7
    generalize (w5.setCell ⟨w3.heap.size,6,none⟩ (.bool false)).drew=w7 at*
    have z0:=cell_of U7.au.head 0
    have z1:=cell_of U7.au.head 1
    have z2:=cell_of U7.au.head 2
    have z3:=cell_of U7.au.head 3
    have z4:=cell_of U7.au.head 4
    have z5:=cell_of U7.au.head 5
    have z6:=cell_of U7.au.head 6
    simp only[List.getElem?_toArray,List.getElem?_cons_succ,List.getElem?_cons_zero]at z0 z1 z2 z3 z4 z5 z6
    have Bf:=(aS (In.core (x:=[_]) U7.au)).1
    simp only[ptr]at Bf
    have Bg:=Lib.hid U7
    clear U7 bx0 bx1 A_ Ba Bc Bd Be Jl Jm Jn r1 r2 r5 wQ
    simp only[List.take_succ_cons,List.take_zero,List.drop_succ_cons,List.drop_zero]
    repeat(refine wpStill_step (fun K hK=> ?_);have HK:=Lib.hid hK;clear hK;go_simp;refine HK.out _ ?_;clear HK K)
    refine wpStill_nil ?_
    go_wp2_with(first
     | (go_at_call 139;refine Calls.mono (Ox.out _ _ (In.arena (x:=[_]) Bg.out.au) XG.out (by first|exact rD|(rw[TG.out]at rD;exact rD))) ?_;rintro e w8 ⟨rfl,Jo,ca8,u8⟩;have U8:=Lib.hid (aj.arena (x:=[_]) Bg.out u8);
         have k23:=bU (In.core (x:=[_]) U8.out.au) 23;have k25:=bU (In.core (x:=[_]) U8.out.au) 25;have k28:=bU (In.core (x:=[_]) U8.out.au) 28;
         have y23:=aZ (In.core (x:=[_]) U8.out.au) 23;have y25:=aZ (In.core (x:=[_]) U8.out.au) 25;have y28:=aZ (In.core (x:=[_]) U8.out.au) 28;
         simp only[gm,List.getElem?_toArray,List.getElem?_cons_succ,List.getElem?_cons_zero,IQ.out]at k23 k25 k28;clear u8 z0 z1 z2 z3 z4 z5 z6 Bf))
    have U9:=aj.iM (x:=[_]) U8.out (wrap64 (s.copied+n))
    go_ret
    exact⟨rfl,_,⟨v5,Jo,vK,vM,vN,hg5,vX,hw5,rfl,ca8,yM,zU,zV,yL,zW,xQ⟩,U9.drop1⟩
   ·simp only[Bool.false_eq_true,if_false,if_true]
    rw[<-IU.out,<-TI.out]
    go_enter Tryz.func100,Tryz.ntmps100
    go_wp2_with(first
    | (go_at_call 44;refine Calls.mono jg ?_;rintro e w1 ⟨rfl,u1⟩;have U1:=Lib.hid (EY.out _ u1);clear jg u1 p2)
    | (go_at_call 78;refine Calls.mono (QO.out _ _ U1.out.au Dq.out) ?_;rintro e w2 ⟨rfl,h2,c2,u2⟩;have U2:=Lib.hid (U1.out.trans u2);have C2:=Lib.hid c2;clear u2 c2)
    | (go_at_call 110;refine Calls.mono (TK.out _ _ U2.out.au C2.out) ?_;rintro e w3 ⟨rfl,h3,c3,u3⟩;have hpb:pc<w3.heap.size:=World.block_lt_of_cell? _ _ (ah.ptrs (x:=[]) c3 u3.au).1;have U3:=Lib.hid ((U2.out.trans u3).alloc' (.cells #[.int .i64 x1, .int .i64 x2, .int .i64 7, .int .i64 x4, .bool x5, .bool x6, .bool x7] 92 (0,0)));have C3:=Lib.hid c3;clear u3 c3)
    | (go_at_call 77;refine Calls.mono (hwx _) ?_;rintro e w4 ⟨rfl,u4⟩;have U4:=Lib.hid (U3.out.dK u4);have A8:=cell_of U4.out.au.head 2;simp only[List.getElem?_toArray,List.getElem?_cons_succ,List.getElem?_cons_zero]at A8;clear u4)
    | (go_at_call 138;refine Calls.mono (TJ.out _ _ U4.out.au.tail C3.out) ?_;rintro e w5 ⟨rfl,h5,⟨v5,AZ,vK,vM,vN,hg5,vX,hw5,rfl,rD,yM,zU,zV,yL,zW,xQ⟩,u5⟩;have U5:=Lib.hid (U4.out.under u5);
        have bx0:=cell_of U5.out.au.head 0;have bx1:=cell_of U5.out.au.head 1;have A_:=cell_of U5.out.au.head 2;have Ba:=cell_of U5.out.au.head 3;have Bc:=cell_of U5.out.au.head 4;have Bd:=cell_of U5.out.au.head 5;have Be:=cell_of U5.out.au.head 6;
        have Jl:=aO U5.out.au.head 3;have Jm:=aO U5.out.au.head 4;have Jn:=aO U5.out.au.head 6;
        obtain⟨r1,r2,r3,r4,r5,r6⟩:=iP (In.core (x:=[_]) U5.out.au);rw[xR.out]at r2;rw[HE2.out]at r1;rw[IQ.out]at r5;clear r3 r4 r6;clear u5;
        have wQ:=(aS (In.core (x:=[_]) U5.out.au)).1;simp only[ptr]at wQ;
        simp only[List.getElem?_toArray,List.getElem?_cons_succ,List.getElem?_cons_zero]at bx0 bx1 A_ Ba Bc Bd Be;clear A8))
    have U7:aj h ((w3.heap.size, .cells #[.int .i64 x1, .int .i64 x2, .int .i64 7, .int .i64 x4, .bool x5, .bool x6, .bool true] 92 (0,0))::(aI pc (bG L s1 v5) AZ vK vM vN hg5 vX hw5).flatten) w (w5.setCell ⟨w3.heap.size,6,none⟩ (.bool true)).drew:=(U5.out.store1 6 (.bool true)).drew'
    generalize w3.heap.size=lb at*
    refine eP 7 (by kernel_rfl) (by kernel_rfl) fun w7 hw7=> ?_
    subst hw7
    generalize (w5.setCell ⟨w3.heap.size,6,none⟩ (.bool true)).drew=w7 at*
    have z0:=cell_of U7.au.head 0
    have z1:=cell_of U7.au.head 1
    have z2:=cell_of U7.au.head 2
    have z3:=cell_of U7.au.head 3
    have z4:=cell_of U7.au.head 4
    have z5:=cell_of U7.au.head 5
    have z6:=cell_of U7.au.head 6
    simp only[List.getElem?_toArray,List.getElem?_cons_succ,List.getElem?_cons_zero]at z0 z1 z2 z3 z4 z5 z6
    have Bf:=(aS (In.core (x:=[_]) U7.au)).1
    simp only[ptr]at Bf
    have Bg:=Lib.hid U7
    clear U7 bx0 bx1 A_ Ba Bc Bd Be Jl Jm Jn r1 r2 r5 wQ
    simp only[List.take_succ_cons,List.take_zero,List.drop_succ_cons,List.drop_zero]
    repeat(refine wpStill_step (fun K hK=> ?_);have HK:=Lib.hid hK;clear hK;go_simp;refine HK.out _ ?_;clear HK K)
    refine wpStill_nil ?_
    go_wp2_with(first
     | (go_at_call 139;refine Calls.mono (Ox.out _ _ (In.arena (x:=[_]) Bg.out.au) XG.out (by first|exact rD|(rw[TG.out]at rD;exact rD))) ?_;rintro e w8 ⟨rfl,Jo,ca8,u8⟩;have U8:=Lib.hid (aj.arena (x:=[_]) Bg.out u8);
         have k23:=bU (In.core (x:=[_]) U8.out.au) 23;have k25:=bU (In.core (x:=[_]) U8.out.au) 25;have k28:=bU (In.core (x:=[_]) U8.out.au) 28;
         have y23:=aZ (In.core (x:=[_]) U8.out.au) 23;have y25:=aZ (In.core (x:=[_]) U8.out.au) 25;have y28:=aZ (In.core (x:=[_]) U8.out.au) 28;
         simp only[gm,List.getElem?_toArray,List.getElem?_cons_succ,List.getElem?_cons_zero,IQ.out]at k23 k25 k28;clear u8 z0 z1 z2 z3 z4 z5 z6 Bf)
     | (at_builtin;(have UX:=Lib.hid ((aj.n_ (x:=[_]) (aj.iM (x:=[_]) U8.out (wrap64 (s.copied+n))) (wrap64 (s1.done.promoted+n))).skip' (.cells #[.int .i64 T] 3 (0,0))));(obtain⟨UK,Jp,hvR,hcR⟩:=xQ.shape);subst hvR;(have UM:=Lib.hid (kF (news:=[.int .i64 T]) (w:=(((w8.setCell ⟨pc,23,none⟩ (.int .i64 (wrap64 (s.copied+n)))).setCell ⟨pc,28,none⟩ (.int .i64 (wrap64 (s1.done.promoted+n)))).alloc (.cells #[.int .i64 T] 3 (0,0)))) (b:=w8.heap.size) (T:=3) (fr:=(0,0)) (aV (by simp))));refine cO rfl (.tmp 95) (.tmp 97) 41 rfl 3 1 8 (.int .i64 0) Tryz.underlying41 Tryz.kG rfl (by decide) (.slice UK s1.row.length Jp) s1.row.length (ints s1.row) hw5 rfl xQ (In.rows (x:=[_]) UX.out.au) ⟨w8.heap.size,0,none⟩ 1 1 [.int .i64 T] rfl UM.out rfl (by intro u hu;simp at hu;subst hu;rfl) (Or.inl (by decide)) (by rw[IU.out];unfold maxLen;omega) (by rw[IU.out];omega) ?_;intro v' Yj hX' hS' qG;(obtain⟨ao',cap',UO,_⟩:=hS'.shape);subst UO;have UY:=Lib.hid (aj.rows (x:=[_]) UX.out qG);have SX:=Lib.hid hS';have yy:=aZ (In.core (x:=[_]) UY.out.au) 25;have kk:=bU (In.core (x:=[_]) UY.out.au) 25;simp only[gm,List.getElem?_toArray,List.getElem?_cons_succ,List.getElem?_cons_zero]at kk;clear hS' qG))
    have UQ:=aj.core (x:=[_]) UY.out 25 (.slice ao' (s1.row.length+1) cap')
    go_ret
    refine⟨rfl,_,⟨.slice ao' (s1.row.length+1) cap',Jo,vK,vM,vN,hg5,vX,hX',rfl,ca8,yM,zU,zV,yL,zW, ?_⟩,(UQ.drop1:_)⟩
    have:=SX.out
    simpa[ints]using this
  ·have hq2:(s.phase !=1)=true:=by simpa using hp
   have Jk:Hid (X=⟨x1,x2,7,s.parity,false,x6,B⟩):=Lib.hid (by rw[HX.out,if_neg hp])
   have XG:Hid X.Good:=Lib.hid (by rw[Jk.out];exact⟨g1,g2,g3,g4,by show(0:Int)<=7;omega,by show(7:Int)<=7;omega,hpar⟩)
   clear hp HX
   have UJ:=Jk.out
   clear Jk
   subst UJ
   simp only[aF]at Ox
   clear hpar g7
   cases B
   ·simp only[Bool.false_eq_true,if_false,if_true]
    rw[<-IU.out,<-TI.out]
    go_enter Tryz.func100,Tryz.ntmps100
    go_wp2_with(first
    | (go_at_call 44;refine Calls.mono jg ?_;rintro e w1 ⟨rfl,u1⟩;have U1:=Lib.hid (EY.out _ u1);clear jg u1 p2)
    | (go_at_call 78;refine Calls.mono (QO.out _ _ U1.out.au Dq.out) ?_;rintro e w2 ⟨rfl,h2,c2,u2⟩;have U2:=Lib.hid (U1.out.trans u2);have C2:=Lib.hid c2;clear u2 c2)
    | (go_at_call 110;refine Calls.mono (TK.out _ _ U2.out.au C2.out) ?_;rintro e w3 ⟨rfl,h3,c3,u3⟩;have hpb:pc<w3.heap.size:=World.block_lt_of_cell? _ _ (ah.ptrs (x:=[]) c3 u3.au).1;have U3:=Lib.hid ((U2.out.trans u3).alloc' (.cells #[.int .i64 x1, .int .i64 x2, .int .i64 7, .int .i64 x4, .bool x5, .bool x6, .bool x7] 92 (0,0)));have C3:=Lib.hid c3;clear u3 c3)
    | (go_at_call 77;refine Calls.mono (hwx _) ?_;rintro e w4 ⟨rfl,u4⟩;have U4:=Lib.hid (U3.out.dK u4);have A8:=cell_of U4.out.au.head 2;simp only[List.getElem?_toArray,List.getElem?_cons_succ,List.getElem?_cons_zero]at A8;clear u4)
    | (go_at_call 138;refine Calls.mono (TJ.out _ _ U4.out.au.tail C3.out) ?_;rintro e w5 ⟨rfl,h5,⟨v5,AZ,vK,vM,vN,hg5,vX,hw5,rfl,rD,yM,zU,zV,yL,zW,xQ⟩,u5⟩;have U5:=Lib.hid (U4.out.under u5);
        have bx0:=cell_of U5.out.au.head 0;have bx1:=cell_of U5.out.au.head 1;have A_:=cell_of U5.out.au.head 2;have Ba:=cell_of U5.out.au.head 3;have Bc:=cell_of U5.out.au.head 4;have Bd:=cell_of U5.out.au.head 5;have Be:=cell_of U5.out.au.head 6;
        have Jl:=aO U5.out.au.head 3;have Jm:=aO U5.out.au.head 4;have Jn:=aO U5.out.au.head 6;
        obtain⟨r1,r2,r3,r4,r5,r6⟩:=iP (In.core (x:=[_]) U5.out.au);rw[xR.out]at r2;rw[HE2.out]at r1;rw[IQ.out]at r5;clear r3 r4 r6;clear u5;
        have wQ:=(aS (In.core (x:=[_]) U5.out.au)).1;simp only[ptr]at wQ;
        simp only[List.getElem?_toArray,List.getElem?_cons_succ,List.getElem?_cons_zero]at bx0 bx1 A_ Ba Bc Bd Be;clear A8))
    have U7:aj h ((w3.heap.size, .cells #[.int .i64 x1, .int .i64 x2, .int .i64 7, .int .i64 s.parity, .bool false, .bool x6, .bool false] 92 (0,0))::(aI pc (bG L s1 v5) AZ vK vM vN hg5 vX hw5).flatten) w (((w5.setCell ⟨w3.heap.size,6,none⟩ (.bool false)).setCell ⟨w3.heap.size,3,none⟩ (.int .i64 s.parity)).setCell ⟨w3.heap.size,4,none⟩ (.bool false)).drew:=(((U5.out.store1 6 (.bool false)).store1 3 (.int .i64 s.parity)).store1 4 (.bool false)).drew'
    generalize w3.heap.size=lb at*
    refine eP 7 (by kernel_rfl) (by kernel_rfl) fun w7 hw7=> ?_
    subst hw7
    generalize (((w5.setCell ⟨w3.heap.size,6,none⟩ (.bool false)).setCell ⟨w3.heap.size,3,none⟩ (.int .i64 s.parity)).setCell ⟨w3.heap.size,4,none⟩ (.bool false)).drew=w7 at*
    have z0:=cell_of U7.au.head 0
    have z1:=cell_of U7.au.head 1
    have z2:=cell_of U7.au.head 2
    have z3:=cell_of U7.au.head 3
    have z4:=cell_of U7.au.head 4
    have z5:=cell_of U7.au.head 5
    have z6:=cell_of U7.au.head 6
    simp only[List.getElem?_toArray,List.getElem?_cons_succ,List.getElem?_cons_zero]at z0 z1 z2 z3 z4 z5 z6
    have Bf:=(aS (In.core (x:=[_]) U7.au)).1
    simp only[ptr]at Bf
    have Bg:=Lib.hid U7
    clear U7 bx0 bx1 A_ Ba Bc Bd Be Jl Jm Jn r1 r2 r5 wQ
    simp only[List.take_succ_cons,List.take_zero,List.drop_succ_cons,List.drop_zero]
    repeat(refine wpStill_step (fun K hK=> ?_);have HK:=Lib.hid hK;clear hK;go_simp;refine HK.out _ ?_;clear HK K)
    refine wpStill_nil ?_
    go_wp2_with(first
     | (go_at_call 139;refine Calls.mono (Ox.out _ _ (In.arena (x:=[_]) Bg.out.au) XG.out (by first|exact rD|(rw[TG.out]at rD;exact rD))) ?_;rintro e w8 ⟨rfl,Jo,ca8,u8⟩;have U8:=Lib.hid (aj.arena (x:=[_]) Bg.out u8);
         have k23:=bU (In.core (x:=[_]) U8.out.au) 23;have k25:=bU (In.core (x:=[_]) U8.out.au) 25;have k28:=bU (In.core (x:=[_]) U8.out.au) 28;
         have y23:=aZ (In.core (x:=[_]) U8.out.au) 23;have y25:=aZ (In.core (x:=[_]) U8.out.au) 25;have y28:=aZ (In.core (x:=[_]) U8.out.au) 28;
         simp only[gm,List.getElem?_toArray,List.getElem?_cons_succ,List.getElem?_cons_zero,IQ.out]at k23 k25 k28;clear u8 z0 z1 z2 z3 z4 z5 z6 Bf))
    have U9:=aj.iM (x:=[_]) U8.out (wrap64 (s.copied+n))
    go_ret
    exact⟨rfl,_,⟨v5,Jo,vK,vM,vN,hg5,vX,hw5,rfl,ca8,yM,zU,zV,yL,zW,xQ⟩,U9.drop1⟩
   ·simp only[Bool.false_eq_true,if_false,if_true]
    rw[<-IU.out,<-TI.out]
    go_enter Tryz.func100,Tryz.ntmps100
    go_wp2_with(first
    | (go_at_call 44;refine Calls.mono jg ?_;rintro e w1 ⟨rfl,u1⟩;have U1:=Lib.hid (EY.out _ u1);clear jg u1 p2)
    | (go_at_call 78;refine Calls.mono (QO.out _ _ U1.out.au Dq.out) ?_;rintro e w2 ⟨rfl,h2,c2,u2⟩;have U2:=Lib.hid (U1.out.trans u2);have C2:=Lib.hid c2;clear u2 c2)
    | (go_at_call 110;refine Calls.mono (TK.out _ _ U2.out.au C2.out) ?_;rintro e w3 ⟨rfl,h3,c3,u3⟩;have hpb:pc<w3.heap.size:=World.block_lt_of_cell? _ _ (ah.ptrs (x:=[]) c3 u3.au).1;have U3:=Lib.hid ((U2.out.trans u3).alloc' (.cells #[.int .i64 x1, .int .i64 x2, .int .i64 7, .int .i64 x4, .bool x5, .bool x6, .bool x7] 92 (0,0)));have C3:=Lib.hid c3;clear u3 c3)
    | (go_at_call 77;refine Calls.mono (hwx _) ?_;rintro e w4 ⟨rfl,u4⟩;have U4:=Lib.hid (U3.out.dK u4);have A8:=cell_of U4.out.au.head 2;simp only[List.getElem?_toArray,List.getElem?_cons_succ,List.getElem?_cons_zero]at A8;clear u4)
    | (go_at_call 138;refine Calls.mono (TJ.out _ _ U4.out.au.tail C3.out) ?_;rintro e w5 ⟨rfl,h5,⟨v5,AZ,vK,vM,vN,hg5,vX,hw5,rfl,rD,yM,zU,zV,yL,zW,xQ⟩,u5⟩;have U5:=Lib.hid (U4.out.under u5);
        have bx0:=cell_of U5.out.au.head 0;have bx1:=cell_of U5.out.au.head 1;have A_:=cell_of U5.out.au.head 2;have Ba:=cell_of U5.out.au.head 3;have Bc:=cell_of U5.out.au.head 4;have Bd:=cell_of U5.out.au.head 5;have Be:=cell_of U5.out.au.head 6;
        have Jl:=aO U5.out.au.head 3;have Jm:=aO U5.out.au.head 4;have Jn:=aO U5.out.au.head 6;
        obtain⟨r1,r2,r3,r4,r5,r6⟩:=iP (In.core (x:=[_]) U5.out.au);rw[xR.out]at r2;rw[HE2.out]at r1;rw[IQ.out]at r5;clear r3 r4 r6;clear u5;
        have wQ:=(aS (In.core (x:=[_]) U5.out.au)).1;simp only[ptr]at wQ;
        simp only[List.getElem?_toArray,List.getElem?_cons_succ,List.getElem?_cons_zero]at bx0 bx1 A_ Ba Bc Bd Be;clear A8))
    have U7:aj h ((w3.heap.size, .cells #[.int .i64 x1, .int .i64 x2, .int .i64 7, .int .i64 s.parity, .bool false, .bool x6, .bool true] 92 (0,0))::(aI pc (bG L s1 v5) AZ vK vM vN hg5 vX hw5).flatten) w (((w5.setCell ⟨w3.heap.size,6,none⟩ (.bool true)).setCell ⟨w3.heap.size,3,none⟩ (.int .i64 s.parity)).setCell ⟨w3.heap.size,4,none⟩ (.bool false)).drew:=(((U5.out.store1 6 (.bool true)).store1 3 (.int .i64 s.parity)).store1 4 (.bool false)).drew'
    generalize w3.heap.size=lb at*
    refine eP 7 (by kernel_rfl) (by kernel_rfl) fun w7 hw7=> ?_
    subst hw7
    generalize (((w5.setCell ⟨w3.heap.size,6,none⟩ (.bool true)).setCell ⟨w3.heap.size,3,none⟩ (.int .i64 s.parity)).setCell ⟨w3.heap.size,4,none⟩ (.bool false)).drew=w7 at*
    have z0:=cell_of U7.au.head 0
    have z1:=cell_of U7.au.head 1
    have z2:=cell_of U7.au.head 2
    have z3:=cell_of U7.au.head 3
    have z4:=cell_of U7.au.head 4
    have z5:=cell_of U7.au.head 5
    have z6:=cell_of U7.au.head 6
    simp only[List.getElem?_toArray,List.getElem?_cons_succ,List.getElem?_cons_zero]at z0 z1 z2 z3 z4 z5 z6
    have Bf:=(aS (In.core (x:=[_]) U7.au)).1
    simp only[ptr]at Bf
    have Bg:=Lib.hid U7
    clear U7 bx0 bx1 A_ Ba Bc Bd Be Jl Jm Jn r1 r2 r5 wQ
    simp only[List.take_succ_cons,List.take_zero,List.drop_succ_cons,List.drop_zero]
    repeat(refine wpStill_step (fun K hK=> ?_);have HK:=Lib.hid hK;clear hK;go_simp;refine HK.out _ ?_;clear HK K)
    refine wpStill_nil ?_
    go_wp2_with(first
     | (go_at_call 139;refine Calls.mono (Ox.out _ _ (In.arena (x:=[_]) Bg.out.au) XG.out (by first|exact rD|(rw[TG.out]at rD;exact rD))) ?_;rintro e w8 ⟨rfl,Jo,ca8,u8⟩;have U8:=Lib.hid (aj.arena (x:=[_]) Bg.out u8);
         have k23:=bU (In.core (x:=[_]) U8.out.au) 23;have k25:=bU (In.core (x:=[_]) U8.out.au) 25;have k28:=bU (In.core (x:=[_]) U8.out.au) 28;
         have y23:=aZ (In.core (x:=[_]) U8.out.au) 23;have y25:=aZ (In.core (x:=[_]) U8.out.au) 25;have y28:=aZ (In.core (x:=[_]) U8.out.au) 28;
         simp only[gm,List.getElem?_toArray,List.getElem?_cons_succ,List.getElem?_cons_zero,IQ.out]at k23 k25 k28;clear u8 z0 z1 z2 z3 z4 z5 z6 Bf)
     | (at_builtin;(have UX:=Lib.hid ((aj.n_ (x:=[_]) (aj.iM (x:=[_]) U8.out (wrap64 (s.copied+n))) (wrap64 (s1.done.promoted+n))).skip' (.cells #[.int .i64 T] 3 (0,0))));(obtain⟨UK,Jp,hvR,hcR⟩:=xQ.shape);subst hvR;(have UM:=Lib.hid (kF (news:=[.int .i64 T]) (w:=(((w8.setCell ⟨pc,23,none⟩ (.int .i64 (wrap64 (s.copied+n)))).setCell ⟨pc,28,none⟩ (.int .i64 (wrap64 (s1.done.promoted+n)))).alloc (.cells #[.int .i64 T] 3 (0,0)))) (b:=w8.heap.size) (T:=3) (fr:=(0,0)) (aV (by simp))));refine cO rfl (.tmp 95) (.tmp 97) 41 rfl 3 1 8 (.int .i64 0) Tryz.underlying41 Tryz.kG rfl (by decide) (.slice UK s1.row.length Jp) s1.row.length (ints s1.row) hw5 rfl xQ (In.rows (x:=[_]) UX.out.au) ⟨w8.heap.size,0,none⟩ 1 1 [.int .i64 T] rfl UM.out rfl (by intro u hu;simp at hu;subst hu;rfl) (Or.inl (by decide)) (by rw[IU.out];unfold maxLen;omega) (by rw[IU.out];omega) ?_;intro v' Yj hX' hS' qG;(obtain⟨ao',cap',UO,_⟩:=hS'.shape);subst UO;have UY:=Lib.hid (aj.rows (x:=[_]) UX.out qG);have SX:=Lib.hid hS';have yy:=aZ (In.core (x:=[_]) UY.out.au) 25;have kk:=bU (In.core (x:=[_]) UY.out.au) 25;simp only[gm,List.getElem?_toArray,List.getElem?_cons_succ,List.getElem?_cons_zero]at kk;clear hS' qG))
    have UQ:=aj.core (x:=[_]) UY.out 25 (.slice ao' (s1.row.length+1) cap')
    go_ret
    refine⟨rfl,_,⟨.slice ao' (s1.row.length+1) cap',Jo,vK,vM,vN,hg5,vX,hX',rfl,ca8,yM,zU,zV,yL,zW, ?_⟩,(UQ.drop1:_)⟩
    have:=SX.out
    simpa[ints]using this
end Go.Proofs.YtibemcgdmembeaaGreat
namespace Go.Proofs.YtibemcgdmembeaaGreat
open Go.RowKit
theorem Bh(pc:Nat)(L:aX)(s:af)(a:Int)(w:World)(h:Hp)(hi:In w h)(hc:ah pc L s h)(hb:I64 a)(h0:a≠0)(hf:s.y.dI a=true)(hn:s.now a≠a):
  Calls Tryz.prog 100 #[ptr pc, .int .i64 a] w fun e w'=>e= .returned (.int .i64 (s.now a))/\ ∃h',ah pc L s h'/\aj h h' w w':=by
 have hq:(a==0)=false:=by simpa using h0
 have dQ:=fun W h (hW:In W h) (hc:ah pc L s h)=>oG pc L s a W h hW hc hb
 have hst: ∃v ha hy ho hr hg ht hw,h=(aI pc (bG L s v) ha hy ho hr hg ht hw).flatten/\gy L.py s.y hy:=by
  obtain⟨v,ha,hy,ho,hr,hg,ht,hw,rfl,ca,cy,co,cr,cg,ct,cw⟩:=hc
  exact⟨v,ha,hy,ho,hr,hg,ht,hw,rfl,cy⟩
 obtain⟨v0,ha0,hy0,ho0,hr0,hg0,ht0,hw0,hh0,Wj⟩:=hst
 have jg:=qX L.py s.y a w hy0 (by rw[hh0]at hi;exact In.fG (x:=[]) hi) Wj hb
 rw[hf]at jg
 have p2:w.cell? ⟨pc,14,none⟩=some (ptr L.py):=by rw[hh0]at hi;exact(aS (In.core (x:=[]) hi)).2.1
 have EY:Hid (∀w1,aj hy0 hy0 w w1->aj h h w w1):=Lib.hid (by
  intro w1 u1
  rw[hh0]at hi⊢
  exact aj.fG (x:=[]) (aj.refl hi) u1)
 have hne:(s.now a !=a)=true:=by simpa using hn
 generalize s.now a=T at*
 have QO:=Lib.hid dQ
 have Dq:=Lib.hid hc
 clear hh0 Wj h0 hf hn dQ hc hi
 simp only[ptr]at*
 go_enter Tryz.func100,Tryz.ntmps100
 go_wp2_with(first
  | (go_at_call 44;refine Calls.mono jg ?_;rintro e w1 ⟨rfl,u1⟩;have U1:=Lib.hid (EY.out _ u1);clear jg u1 p2)
  | (go_at_call 78;refine Calls.mono (QO.out _ _ U1.out.au Dq.out) ?_;rintro e w2 ⟨rfl,h2,c2,u2⟩;have U2:=Lib.hid (U1.out.trans u2);have C2:=Lib.hid c2;clear u2 c2))
 go_ret
 exact⟨rfl,h2,C2.out,U2.out⟩
structure af.Mv(s:af):Prop where
 ow:16<=s.o.words
 par:s.parity=0∨s.parity=1
 row:s.row.length<=1000000
theorem yN(pc:Nat)(L:aX)(s:af)(a:Int)(w:World)(h:Hp)(hi:In w h)(hc:ah pc L s h)(hb:I64 a)(m:s.Mv)(hto:s.y.dI a=true->s.now a=a->I64 (s.kD a)):
  Calls Tryz.prog 100 #[ptr pc, .int .i64 a] w fun e w'=>e= .returned (.int .i64 (s.dA a))/\ ∃h',ah pc L (s.move a) h'/\aj h h' w w':=by
 by_cases h0:a=0∨s.y.dI a=false
 ·rw[af.dA,af.move,if_pos h0,if_pos h0]
  exact Calls.mono (A7 pc L s a w h hi hc hb h0) fun e w' hh=>⟨hh.1,h,hc,hh.2⟩
 ·rw[af.dA,af.move,if_neg h0,if_neg h0]
  have h1:a≠0:=fun e=>h0 (.inl e)
  have h2:s.y.dI a=true:=by
   cases hq:s.y.dI a
   ·exact absurd (.inr hq) h0
   ·rfl
  by_cases hn:s.now a=a
  ·rw[if_pos hn,if_pos hn]
   exact Jj pc L s a w h hi hc hb h1 h2 hn m.ow m.par m.row (hto h2 hn)
  ·rw[if_neg hn,if_neg hn]
   exact Bh pc L s a w h hi hc hb h1 h2 hn
end Go.Proofs.YtibemcgdmembeaaGreat
