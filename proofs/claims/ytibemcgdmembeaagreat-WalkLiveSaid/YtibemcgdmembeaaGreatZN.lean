/- A core in memory: its own block and its parts'. No condition. -/
import Derived.Test.YtibemcgdmembeaaGreatRows
import Derived.Test.YtibemcgdmembeaaGreatZA
import Derived.Test.YtibemcgdmembeaaGreatZM
set_option linter.unusedVariables false
set_option linter.unusedSimpArgs false
set_option maxRecDepth 100000
set_option maxHeartbeats 4000000
namespace Go.Proofs.YtibemcgdmembeaaGreat
open Go.RowKit
def Hd.words(h:Hd):Int:=h.size+2
theorem mM(x:Hd)(hg:x.Good)(w:World):
  Calls Tryz.prog 77 #[.agg (aF x)] w fun e w'=>e= .returned (.int .i64 x.words)/\aj [] [] w w':=by
 obtain⟨h1,h2,h3,h4,h5,h6,h7⟩:=hg
 simp only[aF]
 go_enter Tryz.func77,Tryz.ntmps77
 go_wp2
 all_goals
  go_ret
  first
   |exact⟨rfl,aj.skip (In.nil w) _⟩
   | (have h0:x.size=0:=by omega
      exact⟨by simp[Hd.words,h0],aj.skip (In.nil w) _⟩)
theorem aj.with{w w':World}{h:Hp}(u:aj [] [] w w')(hi:In w h):aj h h w w':=by
 have:=u.beside (k:=h) hi
 simpa using this
def bH(ws:List Int)(i:Int):Int:=if 0<=i/\i<=1048576 then wrap64 (oU ws (i+1))else 0
def yB(ws:List Int)(i:Int):Int:=if 0<=i/\i<=1048576 then nC ws.length (i+1) 1 else 2
def u64(x:Int):Int:=x % 18446744073709551616
theorem Ag(x:Int):C_ (u64 x):=by unfold C_ u64;omega
def ji(ws:List Int)(i to:Int):List Int:=if 0<=i/\i<=1048576 then iQ ws (i+1) (u64 to)else ws
def place(i n:Int):Int:=if 0<=i/\i<=1048576/\0<=n/\n<64 then i+2+n else-1
theorem Rw(pa:Nat)(ws:List Int)(i:Int)(w:World)(h:Hp)(hi:In w h)(ha:dZ pa ws h):
  Calls Tryz.prog 125 #[.pointer (some ⟨pa,0,none⟩), .int .i64 i] w fun e w'=>
   e= .returned (.tuple #[.int .i64 (bH ws i), .int .i64 (yB ws i)])/\ ∃h',dZ pa ws h'/\aj h h' w w':=by
 by_cases hr:0<=i/\i<=1048576
 ·have h1:bH ws i=wrap64 (oU ws (i+1)):=by rw[bH,if_pos hr]
  have h2:yB ws i=nC ws.length (i+1) 1:=by rw[yB,if_pos hr]
  rw[h1,h2]
  clear h1 h2
  obtain⟨r1,r2⟩:=hr
  have hl:=wJ pa ws (i+1) w h hi ha
  go_enter Tryz.func125,Tryz.ntmps125
  go_wp2_with(go_at_call 112;refine Calls.mono hl ?_;rintro e w1 ⟨rfl,h',a1,u1⟩)
  go_ret2
  exact⟨rfl,h',a1,u1⟩
 ·have h1:bH ws i=0:=by rw[bH,if_neg hr]
  have h2:yB ws i=2:=by rw[yB,if_neg hr]
  rw[h1,h2]
  clear h1 h2
  by_cases r1:0<=i
  ·have r2:1048576<i:=by omega
   clear hr
   go_enter Tryz.func125,Tryz.ntmps125
   go_wp2
   go_ret2
   exact⟨rfl,h,ha,aj.refl hi⟩
  ·clear hr
   go_enter Tryz.func125,Tryz.ntmps125
   go_wp2
   go_ret2
   exact⟨rfl,h,ha,aj.refl hi⟩
theorem CV(pa:Nat)(ws:List Int)(i to:Int)(w:World)(h:Hp)(hi:In w h)(ha:dZ pa ws h):
  Calls Tryz.prog 130 #[.pointer (some ⟨pa,0,none⟩), .int .i64 i, .int .i64 to] w fun e w'=>
   e= .returned (.int .i64 (yB ws i))/\ ∃h',dZ pa (ji ws i to) h'/\aj h h' w w':=by
 by_cases hr:0<=i/\i<=1048576
 ·have h1:ji ws i to=iQ ws (i+1) (u64 to):=by rw[ji,if_pos hr]
  have h2:yB ws i=nC ws.length (i+1) 1:=by rw[yB,if_pos hr]
  rw[h1,h2]
  clear h1 h2
  obtain⟨r1,r2⟩:=hr
  have hl:=uD pa ws (i+1) (u64 to) w h hi ha (Ag to)
  have hw:IntKind.u64.wrap to=u64 to:=IntKind.wrap_u64 to
  go_enter Tryz.func130,Tryz.ntmps130
  go_wp2_with(go_at_call 142;refine Calls.mono hl ?_;rintro e w1 ⟨rfl,h',a1,u1⟩)
  go_ret
  exact⟨rfl,h',a1,u1⟩
 ·have h1:ji ws i to=ws:=by rw[ji,if_neg hr]
  have h2:yB ws i=2:=by rw[yB,if_neg hr]
  rw[h1,h2]
  clear h1 h2
  by_cases r1:0<=i
  ·have r2:1048576<i:=by omega
   clear hr
   go_enter Tryz.func130,Tryz.ntmps130
   go_wp2
   go_ret
   exact⟨rfl,h,ha,aj.refl hi⟩
  ·clear hr
   go_enter Tryz.func130,Tryz.ntmps130
   go_wp2
   go_ret
   exact⟨rfl,h,ha,aj.refl hi⟩
theorem EK(i n:Int)(w:World):
  Calls Tryz.prog 113 #[.int .i64 i, .int .i64 n] w fun e w'=>e= .returned (.int .i64 (place i n))/\w=w':=by
 by_cases hr:0<=i/\i<=1048576/\0<=n/\n<64
 ·have h1:place i n=i+2+n:=by rw[place,if_pos hr]
  rw[h1]
  clear h1
  obtain⟨r1,r2,r3,r4⟩:=hr
  go_enter Tryz.func113,Tryz.ntmps113
  go_wp2
  go_ret
  exact⟨rfl,rfl⟩
 ·have h1:place i n= -1:=by rw[place,if_neg hr]
  rw[h1]
  clear h1
  have HR:=Lib.hid hr
  clear hr
  go_enter Tryz.func113,Tryz.ntmps113
  go_wp2
  all_goals
   go_ret
   first
    |exact⟨rfl,rfl⟩
    | (exfalso;have:=HR.out;omega)
theorem yJ(pa:Nat)(ws:List Int)(i n:Int)(w:World)(h:Hp)(hi:In w h)(ha:dZ pa ws h):
  Calls Tryz.prog 62 #[.pointer (some ⟨pa,0,none⟩), .int .i64 i, .int .i64 n] w fun e w'=>
   e= .returned (.tuple #[.int .u64 (oU ws (place i n)), .int .i64 (nC ws.length (place i n) 1)])/\ ∃h',dZ pa ws h'/\aj h h' w w':=by
 have hl:=wJ pa ws (place i n) w h hi ha
 have hp:=EK i n w
 go_enter Tryz.func62,Tryz.ntmps62
 go_wp2_with(first|(go_at_call 113;refine Calls.mono hp ?_;rintro e w1 ⟨rfl,rfl⟩)|(go_at_call 112;refine Calls.mono hl ?_;rintro e w1 ⟨rfl,h',a1,u1⟩))
 go_ret2
 exact⟨rfl,h',a1,u1⟩
theorem sK(pa:Nat)(ws:List Int)(i n v:Int)(w:World)(h:Hp)(hi:In w h)(ha:dZ pa ws h)(hv:C_ v):
  Calls Tryz.prog 102 #[.pointer (some ⟨pa,0,none⟩), .int .i64 i, .int .i64 n, .int .u64 v] w fun e w'=>
   e= .returned (.int .i64 (nC ws.length (place i n) 1))/\ ∃h',dZ pa (iQ ws (place i n) v) h'/\aj h h' w w':=by
 have hl:=uD pa ws (place i n) v w h hi ha hv
 have hp:=EK i n w
 go_enter Tryz.func102,Tryz.ntmps102
 go_wp2_with(first|(go_at_call 113;refine Calls.mono hp ?_;rintro e w1 ⟨rfl,rfl⟩)|(go_at_call 142;refine Calls.mono hl ?_;rintro e w1 ⟨rfl,h',a1,u1⟩))
 go_ret
 exact⟨rfl,h',a1,u1⟩
theorem uJ(pa:Nat)(ws:List Int)(i:Int)(x:Hd)(hg:x.Good)(w:World)(h:Hp)(hi:In w h)(ha:dZ pa ws h):
  Calls Tryz.prog 129 #[.pointer (some ⟨pa,0,none⟩), .int .i64 i, .agg (aF x)] w fun e w'=>
   e= .returned (.int .i64 (nC ws.length i 1))/\ ∃h',dZ pa (iQ ws i x.enc) h'/\aj h h' w w':=by
 have hp:=EJ x
 rw[Hd.pJ hg,show x.Ad=x.enc from by rw[Hd.Ad,if_pos (Hd.pJ hg)]]at hp
 have hl:=fun w1 (h1:In w1 h)=>uD pa ws i x.enc w1 h h1 ha (KD hg)
 simp only[aF]at*
 go_enter Tryz.func129,Tryz.ntmps129
 go_wp2_with(first|(go_at_call 156;refine Calls.mono (hp _) ?_;rintro e w1 ⟨rfl,u1⟩;have u1':=aj.with u1 (hi.alloc _))|(go_at_call 142;refine Calls.mono (hl _ u1'.au) ?_;rintro e w2 ⟨rfl,h',a1,u2⟩))
 go_ret
 exact⟨rfl,h',a1,((aj.skip hi _).trans u1').trans u2⟩
def CW(ws:List Int)(i:Int):Int:=if kU ws.length i 1 then(if lq (rd ws i)then 0 else 1)else 2
def ag(ws:List Int)(i:Int):Hd:=Ai (oU ws i)
theorem VD{ws:List Int}(h: ∀x∈ws,C_ x)(i:Int):C_ (oU ws i):=by
 unfold oU
 split
 ·rename_i hh
  obtain⟨k,rfl,hk⟩:=EP hh
  have:rd ws k=ws[k]:=by simp[rd,List.getD,hk]
  rw[this]
  exact h _ (List.getElem_mem hk)
 ·exact⟨by decide,by decide⟩
theorem Pe(pa:Nat)(ws:List Int)(i:Int)(w:World)(h:Hp)(hi:In w h)(ha:dZ pa ws h):
  Calls Tryz.prog 144 #[.pointer (some ⟨pa,0,none⟩), .int .i64 i] w fun e w'=>
   e= .returned (.tuple #[.agg (aF (ag ws i)), .int .i64 (CW ws i)])/\ ∃h',dZ pa ws h'/\aj h h' w w':=by
 have hl:=fun w1 (h1:In w1 h)=>wJ pa ws i w1 h h1 ha
 have hu:C_ (oU ws i):=by obtain⟨b,n,rfl,_,hu⟩:=ha;exact VD hu i
 have hz:=aj.alloc hi (.cells (aF hd0) 92 (0,0))
 by_cases hh:kU ws.length i 1=true
 ·have he:nC ws.length i 1=0:=by simp[nC,hh]
  have hld:oU ws i=rd ws i:=by simp[oU,hh]
  rw[he]at hl
  have hup:=fun w1=>IM (oU ws i) w1 hu.1 hu.2
  cases hd:lq (oU ws i)
  ·have hE:CW ws i=1:=by simp[CW,hh,<-hld,hd]
   have hS:ag ws i=hd0:=by simp[ag,Ai,hd]
   rw[hE,hS]
   rw[hd,show Ai (oU ws i)=hd0 from by simp[Ai,hd]]at hup
   clear hE hS hld he hd hh
   simp only[aF,hd0]at hup
   go_enter Tryz.func144,Tryz.ntmps144
   go_wp2_with(first|(go_at_call 112;refine Calls.mono (hl _ hz.au.tail) ?_;rintro e w1 ⟨rfl,h',a1,u1⟩;have U1:=hz.under u1)|(go_at_call 161;refine Calls.mono (hup _) ?_;rintro e w2 ⟨rfl,u2⟩;have U2:=U1.dK u2;have UE:=U2.au.lt (b:=w.heap.size) (by simp);have X8:=Nat.ne_of_lt UE;obtain⟨d0,d1,d2,d3,d4,d5,d6⟩:=bW U2.au.head;obtain⟨f0,f1,f2,f3,f4,f5,f6⟩:=kX U2.au.head))
   have UF:=(U2.hd hd0).OV (.cells (aF hd0) 92 (0,0))
   have G:=bW UF.au.head
   try simp only[hd0,aF]at G
   obtain⟨g0,g1,g2,g3,g4,g5,g6⟩:=G
   clear d0 d1 d2 d3 d4 d5 d6 f0 f1 f2 f3 f4 f5 f6
   refine bodyPost_ret (v:= .tuple #[.agg (aF hd0), .int .i64 1]) ?_ rfl ⟨rfl,h',a1,UF.drop1⟩
   simp only[results,Tryz.results144]
   simp[go_sem,aF,hd0,g0,g1,g2,g3,g4,g5,g6]
  ·have hE:CW ws i=0:=by simp[CW,hh,<-hld,hd]
   have hS:ag ws i=Ai (oU ws i):=rfl
   obtain⟨H,hH⟩: ∃H,H=Ai (oU ws i):=⟨_,rfl⟩
   rw[hE,hS,<-hH]
   rw[hd,<-hH]at hup
   clear hE hS hld he hd hh hH
   simp only[aF]at hup
   go_enter Tryz.func144,Tryz.ntmps144
   go_wp2_with(first|(go_at_call 112;refine Calls.mono (hl _ hz.au.tail) ?_;rintro e w1 ⟨rfl,h',a1,u1⟩;have U1:=hz.under u1)|(go_at_call 161;refine Calls.mono (hup _) ?_;rintro e w2 ⟨rfl,u2⟩;have U2:=U1.dK u2;have UE:=U2.au.lt (b:=w.heap.size) (by simp);have X8:=Nat.ne_of_lt UE;obtain⟨d0,d1,d2,d3,d4,d5,d6⟩:=bW U2.au.head;obtain⟨f0,f1,f2,f3,f4,f5,f6⟩:=kX U2.au.head))
   have UF:=(U2.hd H).OV (.cells (aF H) 92 (0,0))
   have G:=bW UF.au.head
   try simp only[hd0,aF]at G
   obtain⟨g0,g1,g2,g3,g4,g5,g6⟩:=G
   clear d0 d1 d2 d3 d4 d5 d6 f0 f1 f2 f3 f4 f5 f6
   refine bodyPost_ret (v:= .tuple #[.agg (aF H), .int .i64 0]) ?_ rfl ⟨rfl,h',a1,UF.drop1⟩
   simp only[results,Tryz.results144]
   simp[go_sem,aF,hd0,g0,g1,g2,g3,g4,g5,g6]
 ·have hh':kU ws.length i 1=false:=by simpa using hh
  have he:nC ws.length i 1=2:=by simp[nC,hh']
  have hE:CW ws i=2:=by simp[CW,hh']
  have h0:Ai 0=hd0:=by decide
  have hS:ag ws i=hd0:=by simp[ag,oU,hh',h0]
  rw[he]at hl
  rw[hE,hS]
  clear hE hS he hh hh' h0
  go_enter Tryz.func144,Tryz.ntmps144
  go_wp2_with(first|(go_at_call 112;refine Calls.mono (hl _ hz.au.tail) ?_;rintro e w1 ⟨rfl,h',a1,u1⟩;have U1:=hz.under u1;obtain⟨d0,d1,d2,d3,d4,d5,d6⟩:=bW U1.au.head;obtain⟨f0,f1,f2,f3,f4,f5,f6⟩:=kX U1.au.head))
  have UF:=U1.hd hd0
  have G:=bW UF.au.head
  try simp only[hd0,aF]at G
  obtain⟨g0,g1,g2,g3,g4,g5,g6⟩:=G
  clear d0 d1 d2 d3 d4 d5 d6 f0 f1 f2 f3 f4 f5 f6
  refine bodyPost_ret (v:= .tuple #[.agg (aF hd0), .int .i64 2]) ?_ rfl ⟨rfl,h',a1,UF.drop1⟩
  simp only[results,Tryz.results144]
  simp[go_sem,aF,hd0,g0,g1,g2,g3,g4,g5,g6]
def iT(ws:List Int)(i:Int)(x:Hd):List Int:=
 if kU ws.length i x.words then ji (iQ (mX ws i x.words.toNat) i x.enc) i i else ws
def rE(ws:List Int)(i:Int)(x:Hd):Int:=
 if kU ws.length i x.words then yB (iQ (mX ws i x.words.toNat) i x.enc) i else 2
theorem Hd.rG{x:Hd}(hg:x.Good):x.words=(x.words.toNat:Int)/\0<x.words.toNat:=by
 obtain⟨h1,h2,_⟩:=hg
 unfold Hd.words
 omega
theorem Pm(pa:Nat)(ws:List Int)(i:Int)(x:Hd)(hg:x.Good)(w:World)(h:Hp)(hi:In w h)(ha:dZ pa ws h):
  Calls Tryz.prog 85 #[.pointer (some ⟨pa,0,none⟩), .int .i64 i, .agg (aF x)] w fun e w'=>
   e= .returned (.int .i64 (rE ws i x))/\ ∃h',dZ pa (iT ws i x) h'/\aj h h' w w':=by
 have hgood:=zg x
 rw[Hd.pJ hg]at hgood
 have nP:=mM x hg
 obtain⟨hn,hn0⟩:=Hd.rG hg
 obtain⟨n,hnn⟩: ∃n,n=x.words.toNat:=⟨_,rfl⟩
 rw[hn]at nP
 rw[<-hnn]at nP hn0
 have hzero:=fun w1 (h1:In w1 h)=>I9 pa ws i n w1 h h1 ha hn0
 have U0:=aj.alloc hi (.cells (aF x) 92 (0,0))
 by_cases hh:kU ws.length i n=true
 ·have e1:rE ws i x=yB (iQ (mX ws i n) i x.enc) i:=by rw[rE,hn,<-hnn,if_pos hh,Int.toNat_natCast]
  have e2:iT ws i x=ji (iQ (mX ws i n) i x.enc) i i:=by rw[iT,hn,<-hnn,if_pos hh,Int.toNat_natCast]
  have e3:nC ws.length i n=0:=by simp[nC,hh]
  rw[e1,e2]
  rw[e3]at hzero
  have hset:=fun w1 h1 (hi1:In w1 h1) (ha1:dZ pa (mX ws i n) h1)=>uJ pa (mX ws i n) i x hg w1 h1 hi1 ha1
  have EX:=fun w1 h1 (hi1:In w1 h1) (ha1:dZ pa (iQ (mX ws i n) i x.enc) h1)=>CV pa (iQ (mX ws i n) i x.enc) i i w1 h1 hi1 ha1
  clear e1 e2 e3 hh hn hnn hn0
  simp only[aF]at*
  go_enter Tryz.func85,Tryz.ntmps85
  go_wp2_with(first
   | (go_at_call 127;refine Calls.mono (hgood _) ?_;rintro e w1 ⟨rfl,u1⟩;have U1:=U0.dK u1;obtain⟨d0,d1,d2,d3,d4,d5,d6⟩:=bW (x:=x) U1.au.head)
   | (go_at_call 77;refine Calls.mono (nP _) ?_;rintro e w2 ⟨rfl,u2⟩;have U2:=U1.dK u2;clear d0 d1 d2 d3 d4 d5 d6;obtain⟨d0,d1,d2,d3,d4,d5,d6⟩:=bW (x:=x) U2.au.head)
   | (go_at_call 128;refine Calls.mono (hzero _ U2.au.tail) ?_;rintro e w3 ⟨rfl,h3,a3,u3⟩;have U3:=U2.under u3;clear d0 d1 d2 d3 d4 d5 d6;obtain⟨d0,d1,d2,d3,d4,d5,d6⟩:=bW (x:=x) U3.au.head)
   | (go_at_call 129;refine Calls.mono (hset _ _ U3.au.tail a3) ?_;rintro e w4 ⟨rfl,h4,a4,u4⟩;have U4:=U3.under u4)
   | (go_at_call 130;refine Calls.mono (EX _ _ U4.au.tail a4) ?_;rintro e w5 ⟨rfl,h5,a5,u5⟩;have U5:=U4.under u5))
  go_ret
  exact⟨rfl,_,a5,U5.drop1⟩
 ·have hh':kU ws.length i n=false:=by simpa using hh
  have e1:rE ws i x=2:=by rw[rE,hn,<-hnn,if_neg hh]
  have e2:iT ws i x=ws:=by rw[iT,hn,<-hnn,if_neg hh]
  have e3:nC ws.length i n=2:=by simp[nC,hh']
  have e4:mX ws i n=ws:=by simp[mX,hh']
  rw[e1,e2]
  rw[e3,e4]at hzero
  clear e1 e2 e3 e4 hh hh' hn hnn hn0
  simp only[aF]at*
  go_enter Tryz.func85,Tryz.ntmps85
  go_wp2_with(first
   | (go_at_call 127;refine Calls.mono (hgood _) ?_;rintro e w1 ⟨rfl,u1⟩;have U1:=U0.dK u1;obtain⟨d0,d1,d2,d3,d4,d5,d6⟩:=bW (x:=x) U1.au.head)
   | (go_at_call 77;refine Calls.mono (nP _) ?_;rintro e w2 ⟨rfl,u2⟩;have U2:=U1.dK u2;clear d0 d1 d2 d3 d4 d5 d6;obtain⟨d0,d1,d2,d3,d4,d5,d6⟩:=bW (x:=x) U2.au.head)
   | (go_at_call 128;refine Calls.mono (hzero _ U2.au.tail) ?_;rintro e w3 ⟨rfl,h3,a3,u3⟩;have U3:=U2.under u3;clear d0 d1 d2 d3 d4 d5 d6;obtain⟨d0,d1,d2,d3,d4,d5,d6⟩:=bW (x:=x) U3.au.head))
  go_ret
  exact⟨rfl,_,a3,U3.drop1⟩
def jZ(ws:List Int)(i j:Int)(x:Hd):List Int:=
 if lZ ws i j x.words.toNat then ji (ji (iQ (mF ws i j x.words.toNat) j x.enc) j j) i j else ws
def u_(ws:List Int)(i j:Int)(x:Hd):Int:=
 if lZ ws i j x.words.toNat then yB (ji (iQ (mF ws i j x.words.toNat) j x.enc) j j) i else 2
theorem Po(pa:Nat)(ws:List Int)(i j:Int)(x:Hd)(hg:x.Good)(w:World)(h:Hp)(hi:In w h)(ha:dZ pa ws h):
  Calls Tryz.prog 139 #[.pointer (some ⟨pa,0,none⟩), .int .i64 i, .int .i64 j, .agg (aF x)] w fun e w'=>
   e= .returned (.int .i64 (u_ ws i j x))/\ ∃h',dZ pa (jZ ws i j x) h'/\aj h h' w w':=by
 have hgood:=zg x
 rw[Hd.pJ hg]at hgood
 have nP:=mM x hg
 obtain⟨hn,hn0⟩:=Hd.rG hg
 obtain⟨n,hnn⟩: ∃n,n=x.words.toNat:=⟨_,rfl⟩
 rw[hn]at nP
 rw[<-hnn]at nP hn0
 have hcopy:=fun w1 (h1:In w1 h)=>I_ pa ws i j n w1 h h1 ha hn0
 have U0:=aj.alloc hi (.cells (aF x) 92 (0,0))
 by_cases hh:lZ ws i j n=true
 ·have e1:u_ ws i j x=yB (ji (iQ (mF ws i j n) j x.enc) j j) i:=by rw[u_,<-hnn,if_pos hh]
  have e2:jZ ws i j x=ji (ji (iQ (mF ws i j n) j x.enc) j j) i j:=by rw[jZ,<-hnn,if_pos hh]
  have e3:nG ws i j n=0:=by simp[nG,hh]
  rw[e1,e2]
  rw[e3]at hcopy
  have hset:=fun w1 h1 (hi1:In w1 h1) (ha1:dZ pa (mF ws i j n) h1)=>uJ pa (mF ws i j n) j x hg w1 h1 hi1 ha1
  have EX:=fun ws1 p1 q1 w1 h1 (hi1:In w1 h1) (ha1:dZ pa ws1 h1)=>CV pa ws1 p1 q1 w1 h1 hi1 ha1
  clear e1 e2 e3 hh hn hnn hn0
  simp only[aF]at*
  go_enter Tryz.func139,Tryz.ntmps139
  go_wp2_with(first
   | (go_at_call 127;refine Calls.mono (hgood _) ?_;rintro e w1 ⟨rfl,u1⟩;have U1:=U0.dK u1;obtain⟨d0,d1,d2,d3,d4,d5,d6⟩:=bW (x:=x) U1.au.head)
   | (go_at_call 77;refine Calls.mono (nP _) ?_;rintro e w2 ⟨rfl,u2⟩;have U2:=U1.dK u2;clear d0 d1 d2 d3 d4 d5 d6;obtain⟨d0,d1,d2,d3,d4,d5,d6⟩:=bW (x:=x) U2.au.head)
   | (go_at_call 158;refine Calls.mono (hcopy _ U2.au.tail) ?_;rintro e w3 ⟨rfl,h3,a3,u3⟩;have U3:=U2.under u3;clear d0 d1 d2 d3 d4 d5 d6;obtain⟨d0,d1,d2,d3,d4,d5,d6⟩:=bW (x:=x) U3.au.head)
   | (go_at_call 129;refine Calls.mono (hset _ _ U3.au.tail a3) ?_;rintro e w4 ⟨rfl,h4,a4,u4⟩;have U4:=U3.under u4)
   | (go_at_call 130;with_reducible refine Calls.mono (EX _ j j _ _ U4.au.tail a4) ?_;rintro e w5 ⟨rfl,h5,a5,u5⟩;have U5:=U4.under u5;clear U4)
   | (go_at_call 130;with_reducible refine Calls.mono (EX _ i j _ _ U5.au.tail a5) ?_;rintro e w6 ⟨rfl,h6,a6,u6⟩;have U6:=U5.under u6))
  go_ret
  exact⟨rfl,_,a6,U6.drop1⟩
 ·have hh':lZ ws i j n=false:=by simpa using hh
  have e1:u_ ws i j x=2:=by rw[u_,<-hnn,if_neg hh]
  have e2:jZ ws i j x=ws:=by rw[jZ,<-hnn,if_neg hh]
  have e3:nG ws i j n=2:=by simp[nG,hh']
  have e4:mF ws i j n=ws:=by simp[mF,hh']
  rw[e1,e2]
  rw[e3,e4]at hcopy
  clear e1 e2 e3 e4 hh hh' hn hnn hn0
  simp only[aF]at*
  go_enter Tryz.func139,Tryz.ntmps139
  go_wp2_with(first
   | (go_at_call 127;refine Calls.mono (hgood _) ?_;rintro e w1 ⟨rfl,u1⟩;have U1:=U0.dK u1;obtain⟨d0,d1,d2,d3,d4,d5,d6⟩:=bW (x:=x) U1.au.head)
   | (go_at_call 77;refine Calls.mono (nP _) ?_;rintro e w2 ⟨rfl,u2⟩;have U2:=U1.dK u2;clear d0 d1 d2 d3 d4 d5 d6;obtain⟨d0,d1,d2,d3,d4,d5,d6⟩:=bW (x:=x) U2.au.head)
   | (go_at_call 158;refine Calls.mono (hcopy _ U2.au.tail) ?_;rintro e w3 ⟨rfl,h3,a3,u3⟩;have U3:=U2.under u3;clear d0 d1 d2 d3 d4 d5 d6;obtain⟨d0,d1,d2,d3,d4,d5,d6⟩:=bW (x:=x) U3.au.head))
  go_ret
  exact⟨rfl,_,a3,U3.drop1⟩
end Go.Proofs.YtibemcgdmembeaaGreat
namespace Go.Proofs.YtibemcgdmembeaaGreat
open Go.RowKit
structure Pn where
 oN:Int
 words:Int
 promoted:Int
 minors:Int
 qP:Int
 fG:Int
 old:Int
 free:Int
structure af where
 C:gX
 ws:List Int
 y:aJ
 o:aP
 r:iq
 g:bZ
 t:List Int
 parity:Int
 phase:Int
 aG:Bool
 scan:Int
 copied:Int
 look:Int
 row:List Int
 done:Pn
structure aX where
 pa:Nat
 py:Nat
 po:Nat
 pr:Nat
 pg:Nat
 pt:Nat
def gm(L:aX)(s:af)(v:Value):Array Value:=#[.int .i64 s.C.handles, .int .i64 s.C.aU, .int .i64 s.C.pages, .int .i64 s.C.page, .int .i64 s.C.card, .int .i64 s.C.buffer, .int .i64 s.C.stack, .int .i64 s.C.d_, .int .i64 s.C.largest, .int .i64 s.C.minor, .int .i64 s.C.major, .int .i64 s.C.dH, .int .i64 s.C.dm,ptr L.pa,ptr L.py,ptr L.po,ptr L.pr,ptr L.pg,ptr L.pt, .int .i64 s.parity, .int .i64 s.phase, .bool s.aG, .int .i64 s.scan, .int .i64 s.copied, .int .i64 s.look,v, .int .i64 s.done.oN, .int .i64 s.done.words, .int .i64 s.done.promoted, .int .i64 s.done.minors, .int .i64 s.done.qP, .int .i64 s.done.fG, .int .i64 s.done.old, .int .i64 s.done.free]
def bG(L:aX)(s:af)(v:Value):Obj:= .cells (gm L s v) 63 (0,0)
abbrev aI(pc:Nat)(o:Obj)(ha hy ho hr hg ht hw:Hp):List Hp:=[[(pc,o)],ha,hy,ho,hr,hg,ht,hw]
def ah(pc:Nat)(L:aX)(s:af)(h:Hp):Prop:=
 ∃v ha hy ho hr hg ht hw,h=(aI pc (bG L s v) ha hy ho hr hg ht hw).flatten/\dZ L.pa s.ws ha/\gy L.py s.y hy/\eF L.po s.o ho/\uA L.pr s.r hr/\lQ L.pg s.g hg/\lH L.pt s.t ht/\aK 3 1 v s.row.length (ints s.row) hw
section
variable{w0 w w':World}{h0 x:Hp}{pc:Nat}{o:Obj}{ha hy ho hr hg ht hw k:Hp}
theorem In.arena(hi:In w (x++(aI pc o ha hy ho hr hg ht hw).flatten)):In w ha:=hi.right.part (l:=aI pc o ha hy ho hr hg ht hw) (i:=1) rfl
theorem aj.arena(a:aj h0 (x++(aI pc o ha hy ho hr hg ht hw).flatten) w0 w)(u:aj ha k w w'):aj h0 (x++(aI pc o k hy ho hr hg ht hw).flatten) w0 w':=
 aj.fH (l:=x::aI pc o ha hy ho hr hg ht hw) (i:=2) a rfl u
theorem In.fG(hi:In w (x++(aI pc o ha hy ho hr hg ht hw).flatten)):In w hy:=hi.right.part (l:=aI pc o ha hy ho hr hg ht hw) (i:=2) rfl
theorem aj.fG(a:aj h0 (x++(aI pc o ha hy ho hr hg ht hw).flatten) w0 w)(u:aj hy k w w'):aj h0 (x++(aI pc o ha k ho hr hg ht hw).flatten) w0 w':=
 aj.fH (l:=x::aI pc o ha hy ho hr hg ht hw) (i:=3) a rfl u
theorem In.old(hi:In w (x++(aI pc o ha hy ho hr hg ht hw).flatten)):In w ho:=hi.right.part (l:=aI pc o ha hy ho hr hg ht hw) (i:=3) rfl
theorem aj.old(a:aj h0 (x++(aI pc o ha hy ho hr hg ht hw).flatten) w0 w)(u:aj ho k w w'):aj h0 (x++(aI pc o ha hy k hr hg ht hw).flatten) w0 w':=
 aj.fH (l:=x::aI pc o ha hy ho hr hg ht hw) (i:=4) a rfl u
theorem In.rem(hi:In w (x++(aI pc o ha hy ho hr hg ht hw).flatten)):In w hr:=hi.right.part (l:=aI pc o ha hy ho hr hg ht hw) (i:=4) rfl
theorem aj.rem(a:aj h0 (x++(aI pc o ha hy ho hr hg ht hw).flatten) w0 w)(u:aj hr k w w'):aj h0 (x++(aI pc o ha hy ho k hg ht hw).flatten) w0 w':=
 aj.fH (l:=x::aI pc o ha hy ho hr hg ht hw) (i:=5) a rfl u
theorem In.dh(hi:In w (x++(aI pc o ha hy ho hr hg ht hw).flatten)):In w hg:=hi.right.part (l:=aI pc o ha hy ho hr hg ht hw) (i:=5) rfl
theorem aj.dh(a:aj h0 (x++(aI pc o ha hy ho hr hg ht hw).flatten) w0 w)(u:aj hg k w w'):aj h0 (x++(aI pc o ha hy ho hr k ht hw).flatten) w0 w':=
 aj.fH (l:=x::aI pc o ha hy ho hr hg ht hw) (i:=6) a rfl u
theorem In.table(hi:In w (x++(aI pc o ha hy ho hr hg ht hw).flatten)):In w ht:=hi.right.part (l:=aI pc o ha hy ho hr hg ht hw) (i:=6) rfl
theorem aj.table(a:aj h0 (x++(aI pc o ha hy ho hr hg ht hw).flatten) w0 w)(u:aj ht k w w'):aj h0 (x++(aI pc o ha hy ho hr hg k hw).flatten) w0 w':=
 aj.fH (l:=x::aI pc o ha hy ho hr hg ht hw) (i:=7) a rfl u
theorem In.rows(hi:In w (x++(aI pc o ha hy ho hr hg ht hw).flatten)):In w hw:=hi.right.part (l:=aI pc o ha hy ho hr hg ht hw) (i:=7) rfl
theorem aj.rows(a:aj h0 (x++(aI pc o ha hy ho hr hg ht hw).flatten) w0 w)(u:aj hw k w w'):aj h0 (x++(aI pc o ha hy ho hr hg ht k).flatten) w0 w':=
 aj.fH (l:=x::aI pc o ha hy ho hr hg ht hw) (i:=8) a rfl u
theorem In.core(hi:In w (x++(aI pc o ha hy ho hr hg ht hw).flatten)):w.heap[pc]? =some o:=(hi.right.part (l:=aI pc o ha hy ho hr hg ht hw) (i:=0) rfl).head
theorem aj.core{arr:Array Value}{T:TypeId}{fr:Nat×Nat}(a:aj h0 (x++(aI pc (.cells arr T fr) ha hy ho hr hg ht hw).flatten) w0 w)(off:Nat)(v:Value):
  aj h0 (x++(aI pc (.cells (arr.setIfInBounds off v) T fr) ha hy ho hr hg ht hw).flatten) w0 (w.setCell ⟨pc,off,none⟩ v):=
 aj.fH (l:=x::aI pc (.cells arr T fr) ha hy ho hr hg ht hw) (i:=1) a rfl (aj.store (l:=[]) (r:=[]) ((a.au.part (l:=x::aI pc (.cells arr T fr) ha hy ho hr hg ht hw) (i:=1) rfl)))
theorem aj.box(a:aj h0 (x++(aI pc o ha hy ho hr hg ht hw).flatten) w0 w)(b:Obj):aj h0 (((w.heap.size,b)::x)++(aI pc o ha hy ho hr hg ht hw).flatten) w0 (w.alloc b):=a.alloc' b
end
section
variable{w:World}{pc:Nat}{L:aX}{s:af}{v:Value}
theorem Gz(h:w.heap[pc]? =some (bG L s v)):
  w.cell? ⟨pc,0,none⟩=some (.int .i64 s.C.handles)/\w.cell? ⟨pc,1,none⟩=some (.int .i64 s.C.aU)/\w.cell? ⟨pc,2,none⟩=some (.int .i64 s.C.pages)/\w.cell? ⟨pc,3,none⟩=some (.int .i64 s.C.page)/\w.cell? ⟨pc,4,none⟩=some (.int .i64 s.C.card)/\w.cell? ⟨pc,5,none⟩=some (.int .i64 s.C.buffer)/\w.cell? ⟨pc,6,none⟩=some (.int .i64 s.C.stack)/\w.cell? ⟨pc,7,none⟩=some (.int .i64 s.C.d_)/\w.cell? ⟨pc,8,none⟩=some (.int .i64 s.C.largest)/\w.cell? ⟨pc,9,none⟩=some (.int .i64 s.C.minor)/\w.cell? ⟨pc,10,none⟩=some (.int .i64 s.C.major)/\w.cell? ⟨pc,11,none⟩=some (.int .i64 s.C.dH)/\w.cell? ⟨pc,12,none⟩=some (.int .i64 s.C.dm):=
 ⟨cell_of h 0,cell_of h 1,cell_of h 2,cell_of h 3,cell_of h 4,cell_of h 5,cell_of h 6,cell_of h 7,cell_of h 8,cell_of h 9,cell_of h 10,cell_of h 11,cell_of h 12⟩
theorem aS(h:w.heap[pc]? =some (bG L s v)):
  w.cell? ⟨pc,13,none⟩=some (ptr L.pa)/\w.cell? ⟨pc,14,none⟩=some (ptr L.py)/\w.cell? ⟨pc,15,none⟩=some (ptr L.po)/\w.cell? ⟨pc,16,none⟩=some (ptr L.pr)/\w.cell? ⟨pc,17,none⟩=some (ptr L.pg)/\w.cell? ⟨pc,18,none⟩=some (ptr L.pt):=
 ⟨cell_of h 13,cell_of h 14,cell_of h 15,cell_of h 16,cell_of h 17,cell_of h 18⟩
theorem iP(h:w.heap[pc]? =some (bG L s v)):
  w.cell? ⟨pc,19,none⟩=some (.int .i64 s.parity)/\w.cell? ⟨pc,20,none⟩=some (.int .i64 s.phase)/\w.cell? ⟨pc,21,none⟩=some (.bool s.aG)/\w.cell? ⟨pc,22,none⟩=some (.int .i64 s.scan)/\w.cell? ⟨pc,23,none⟩=some (.int .i64 s.copied)/\w.cell? ⟨pc,24,none⟩=some (.int .i64 s.look):=
 ⟨cell_of h 19,cell_of h 20,cell_of h 21,cell_of h 22,cell_of h 23,cell_of h 24⟩
theorem Jg(h:w.heap[pc]? =some (bG L s v)):
  w.cell? ⟨pc,26,none⟩=some (.int .i64 s.done.oN)/\w.cell? ⟨pc,27,none⟩=some (.int .i64 s.done.words)/\w.cell? ⟨pc,28,none⟩=some (.int .i64 s.done.promoted)/\w.cell? ⟨pc,29,none⟩=some (.int .i64 s.done.minors)/\w.cell? ⟨pc,30,none⟩=some (.int .i64 s.done.qP)/\w.cell? ⟨pc,31,none⟩=some (.int .i64 s.done.fG)/\w.cell? ⟨pc,32,none⟩=some (.int .i64 s.done.old)/\w.cell? ⟨pc,33,none⟩=some (.int .i64 s.done.free):=
 ⟨cell_of h 26,cell_of h 27,cell_of h 28,cell_of h 29,cell_of h 30,cell_of h 31,cell_of h 32,cell_of h 33⟩
theorem aj.H8{w0 w:World}{h0 x:Hp}{ha hy ho hr hg ht hw:Hp}(a:aj h0 (x++(aI pc (bG L s v) ha hy ho hr hg ht hw).flatten) w0 w)(u:Int):
  aj h0 (x++(aI pc (bG L {s with parity:=u} v) ha hy ho hr hg ht hw).flatten) w0 (w.setCell ⟨pc,19,none⟩ (.int .i64 u)):=a.core 19 _
theorem aj.JY{w0 w:World}{h0 x:Hp}{ha hy ho hr hg ht hw:Hp}(a:aj h0 (x++(aI pc (bG L s v) ha hy ho hr hg ht hw).flatten) w0 w)(u:Int):
  aj h0 (x++(aI pc (bG L {s with phase:=u} v) ha hy ho hr hg ht hw).flatten) w0 (w.setCell ⟨pc,20,none⟩ (.int .i64 u)):=a.core 20 _
theorem aj.zy{w0 w:World}{h0 x:Hp}{ha hy ho hr hg ht hw:Hp}(a:aj h0 (x++(aI pc (bG L s v) ha hy ho hr hg ht hw).flatten) w0 w)(u:Bool):
  aj h0 (x++(aI pc (bG L {s with aG:=u} v) ha hy ho hr hg ht hw).flatten) w0 (w.setCell ⟨pc,21,none⟩ (.bool u)):=a.core 21 _
theorem aj.Nj{w0 w:World}{h0 x:Hp}{ha hy ho hr hg ht hw:Hp}(a:aj h0 (x++(aI pc (bG L s v) ha hy ho hr hg ht hw).flatten) w0 w)(u:Int):
  aj h0 (x++(aI pc (bG L {s with scan:=u} v) ha hy ho hr hg ht hw).flatten) w0 (w.setCell ⟨pc,22,none⟩ (.int .i64 u)):=a.core 22 _
theorem aj.iM{w0 w:World}{h0 x:Hp}{ha hy ho hr hg ht hw:Hp}(a:aj h0 (x++(aI pc (bG L s v) ha hy ho hr hg ht hw).flatten) w0 w)(u:Int):
  aj h0 (x++(aI pc (bG L {s with copied:=u} v) ha hy ho hr hg ht hw).flatten) w0 (w.setCell ⟨pc,23,none⟩ (.int .i64 u)):=a.core 23 _
theorem aj.Ep{w0 w:World}{h0 x:Hp}{ha hy ho hr hg ht hw:Hp}(a:aj h0 (x++(aI pc (bG L s v) ha hy ho hr hg ht hw).flatten) w0 w)(u:Int):
  aj h0 (x++(aI pc (bG L {s with look:=u} v) ha hy ho hr hg ht hw).flatten) w0 (w.setCell ⟨pc,24,none⟩ (.int .i64 u)):=a.core 24 _
theorem aj.GG{w0 w:World}{h0 x:Hp}{ha hy ho hr hg ht hw:Hp}(a:aj h0 (x++(aI pc (bG L s v) ha hy ho hr hg ht hw).flatten) w0 w)(u:Int):
  aj h0 (x++(aI pc (bG L {s with done:={s.done with oN:=u}} v) ha hy ho hr hg ht hw).flatten) w0 (w.setCell ⟨pc,26,none⟩ (.int .i64 u)):=a.core 26 _
theorem aj.Jh{w0 w:World}{h0 x:Hp}{ha hy ho hr hg ht hw:Hp}(a:aj h0 (x++(aI pc (bG L s v) ha hy ho hr hg ht hw).flatten) w0 w)(u:Int):
  aj h0 (x++(aI pc (bG L {s with done:={s.done with words:=u}} v) ha hy ho hr hg ht hw).flatten) w0 (w.setCell ⟨pc,27,none⟩ (.int .i64 u)):=a.core 27 _
theorem aj.n_{w0 w:World}{h0 x:Hp}{ha hy ho hr hg ht hw:Hp}(a:aj h0 (x++(aI pc (bG L s v) ha hy ho hr hg ht hw).flatten) w0 w)(u:Int):
  aj h0 (x++(aI pc (bG L {s with done:={s.done with promoted:=u}} v) ha hy ho hr hg ht hw).flatten) w0 (w.setCell ⟨pc,28,none⟩ (.int .i64 u)):=a.core 28 _
theorem aj.GL{w0 w:World}{h0 x:Hp}{ha hy ho hr hg ht hw:Hp}(a:aj h0 (x++(aI pc (bG L s v) ha hy ho hr hg ht hw).flatten) w0 w)(u:Int):
  aj h0 (x++(aI pc (bG L {s with done:={s.done with minors:=u}} v) ha hy ho hr hg ht hw).flatten) w0 (w.setCell ⟨pc,29,none⟩ (.int .i64 u)):=a.core 29 _
theorem aj.H9{w0 w:World}{h0 x:Hp}{ha hy ho hr hg ht hw:Hp}(a:aj h0 (x++(aI pc (bG L s v) ha hy ho hr hg ht hw).flatten) w0 w)(u:Int):
  aj h0 (x++(aI pc (bG L {s with done:={s.done with qP:=u}} v) ha hy ho hr hg ht hw).flatten) w0 (w.setCell ⟨pc,30,none⟩ (.int .i64 u)):=a.core 30 _
theorem bU(h:w.heap[pc]? =some (bG L s v))(i:Nat):w.cell? ⟨pc,i,none⟩=(gm L s v)[i]? :=cell_of h i
theorem aZ(h:w.heap[pc]? =some (bG L s v))(i:Nat):w.frozen? ⟨pc,i,none⟩=false:=aO h i
end
end Go.Proofs.YtibemcgdmembeaaGreat
