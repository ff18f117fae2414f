/- wakes of the topmost statements' package is true. Condition: none. -/
import Derived.Test.YtibemcgdmembeaaGreatRows
import Derived.Test.YtibemcgdmembeaaGreatZL
set_option linter.unusedVariables false
set_option linter.unusedSimpArgs false
set_option maxRecDepth 100000
set_option maxHeartbeats 4000000
namespace Go.Proofs.YtibemcgdmembeaaGreat
open Go.RowKit
theorem CZ(a b c d:Int)(ha:U8 a)(hb:U8 b)(hc:U8 c)(hd:U8 d)(w:World):
  Calls Tryz.prog 26 #[.int .u8 a, .int .u8 b, .int .u8 c, .int .u8 d] w fun e w'=>e= .returned (.agg (aN (fO a b c d)))/\aj [] [] w w':=by
 obtain⟨a1,a2⟩:=ha
 obtain⟨b1,b2⟩:=hb
 obtain⟨c1,c2⟩:=hc
 obtain⟨d1,d2⟩:=hd
 have p0:0<=16+16*(a/64):=by omega
 have q1:(16+16*(a/64)).tdiv 1=16+16*(a/64):=Int.tdiv_one ..
 have q2:(16+16*(a/64)).tdiv 2=(16+16*(a/64))/2:=Int.tdiv_eq_ediv_of_nonneg p0
 have q4:(16+16*(a/64)).tdiv 4=(16+16*(a/64))/4:=Int.tdiv_eq_ediv_of_nonneg p0
 have key: ∀k:Int,(k=0∨k=1∨k=2)->c % 3=k->Calls Tryz.prog 26 #[.int .u8 a, .int .u8 b, .int .u8 c, .int .u8 d] w fun e w'=>e= .returned (.agg (aN (fO a b c d)))/\aj [] [] w w':=by
  intro k hk hm
  rcases hk with rfl|rfl|rfl
  ·have hR:fO a b c d=⟨a % 5+2,24+b % 60,b/16 % 12+1,16+16*(a/64),16+16*(a/64),c/4 % 4,c/16 % 4+1,c/64 % 3+1,d % 8+1,d/8 % 8,d/64*2,12+a % 8,b % 3 % 2⟩:=by simp[fO,hm]
   rw[hR]
   clear hR
   have hw:IntKind.i64.wrap (16+16*(a/64))=16+16*(a/64):=IntWalk.i64_in _ (by omega)
   go_enter Tryz.func26,Tryz.ntmps26
   go_wp2
   have UF:=aj.alloc (In.nil w) (.cells (aN ⟨a % 5+2,24+b % 60,b/16 % 12+1,16+16*(a/64),16+16*(a/64),c/4 % 4,c/16 % 4+1,c/64 % 3+1,d % 8+1,d/8 % 8,d/64*2,12+a % 8,b % 3 % 2⟩) 23 (0,0))
   obtain⟨g0,g1,g2,g3,g4,g5,g6,g7,g8,g9,g10,g11,g12⟩:=dY UF.au.head
   simp only[aN]at g0 g1 g2 g3 g4 g5 g6 g7 g8 g9 g10 g11 g12
   refine bodyPost_ret (v:= .agg (aN ⟨a % 5+2,24+b % 60,b/16 % 12+1,16+16*(a/64),16+16*(a/64),c/4 % 4,c/16 % 4+1,c/64 % 3+1,d % 8+1,d/8 % 8,d/64*2,12+a % 8,b % 3 % 2⟩)) ?_ rfl ⟨rfl,UF.drop1⟩
   simp only[results,Tryz.results26]
   simp[go_sem,aN,g0,g1,g2,g3,g4,g5,g6,g7,g8,g9,g10,g11,g12]
  ·have hR:fO a b c d=⟨a % 5+2,24+b % 60,b/16 % 12+1,16+16*(a/64),(16+16*(a/64))/2,c/4 % 4,c/16 % 4+1,c/64 % 3+1,d % 8+1,d/8 % 8,d/64*2,12+a % 8,b % 3 % 2⟩:=by simp[fO,hm]
   rw[hR]
   clear hR
   have hw:IntKind.i64.wrap ((16+16*(a/64))/2)=(16+16*(a/64))/2:=IntWalk.i64_in _ (by omega)
   go_enter Tryz.func26,Tryz.ntmps26
   go_wp2
   have UF:=aj.alloc (In.nil w) (.cells (aN ⟨a % 5+2,24+b % 60,b/16 % 12+1,16+16*(a/64),(16+16*(a/64))/2,c/4 % 4,c/16 % 4+1,c/64 % 3+1,d % 8+1,d/8 % 8,d/64*2,12+a % 8,b % 3 % 2⟩) 23 (0,0))
   obtain⟨g0,g1,g2,g3,g4,g5,g6,g7,g8,g9,g10,g11,g12⟩:=dY UF.au.head
   simp only[aN]at g0 g1 g2 g3 g4 g5 g6 g7 g8 g9 g10 g11 g12
   refine bodyPost_ret (v:= .agg (aN ⟨a % 5+2,24+b % 60,b/16 % 12+1,16+16*(a/64),(16+16*(a/64))/2,c/4 % 4,c/16 % 4+1,c/64 % 3+1,d % 8+1,d/8 % 8,d/64*2,12+a % 8,b % 3 % 2⟩)) ?_ rfl ⟨rfl,UF.drop1⟩
   simp only[results,Tryz.results26]
   simp[go_sem,aN,g0,g1,g2,g3,g4,g5,g6,g7,g8,g9,g10,g11,g12]
  ·have hR:fO a b c d=⟨a % 5+2,24+b % 60,b/16 % 12+1,16+16*(a/64),(16+16*(a/64))/4,c/4 % 4,c/16 % 4+1,c/64 % 3+1,d % 8+1,d/8 % 8,d/64*2,12+a % 8,b % 3 % 2⟩:=by simp[fO,hm]
   rw[hR]
   clear hR
   have hw:IntKind.i64.wrap ((16+16*(a/64))/4)=(16+16*(a/64))/4:=IntWalk.i64_in _ (by omega)
   go_enter Tryz.func26,Tryz.ntmps26
   go_wp2
   have UF:=aj.alloc (In.nil w) (.cells (aN ⟨a % 5+2,24+b % 60,b/16 % 12+1,16+16*(a/64),(16+16*(a/64))/4,c/4 % 4,c/16 % 4+1,c/64 % 3+1,d % 8+1,d/8 % 8,d/64*2,12+a % 8,b % 3 % 2⟩) 23 (0,0))
   obtain⟨g0,g1,g2,g3,g4,g5,g6,g7,g8,g9,g10,g11,g12⟩:=dY UF.au.head
   simp only[aN]at g0 g1 g2 g3 g4 g5 g6 g7 g8 g9 g10 g11 g12
   refine bodyPost_ret (v:= .agg (aN ⟨a % 5+2,24+b % 60,b/16 % 12+1,16+16*(a/64),(16+16*(a/64))/4,c/4 % 4,c/16 % 4+1,c/64 % 3+1,d % 8+1,d/8 % 8,d/64*2,12+a % 8,b % 3 % 2⟩)) ?_ rfl ⟨rfl,UF.drop1⟩
   simp only[results,Tryz.results26]
   simp[go_sem,aN,g0,g1,g2,g3,g4,g5,g6,g7,g8,g9,g10,g11,g12]
 exact key (c % 3) (by omega) rfl
end Go.Proofs.YtibemcgdmembeaaGreat
namespace Go.Proofs.YtibemcgdmembeaaGreat
open Go.RowKit
def QS:gX:=fO 3 40 80 20
theorem QM:QS.ok=true:=by kernel_rfl
def Xm:af:=gJ QS
def Xn:af:=jS Xm ⟨1,0,1,1,0⟩
theorem Ue:jc Xm ⟨1,0,1,1,0⟩=⟨0,false,0,0⟩:=by kernel_rfl
def Xo:af:=jS Xn ⟨5,0,0,0,9⟩
theorem Uf:jc Xn ⟨5,0,0,0,9⟩=⟨0,false,0,0⟩:=by kernel_rfl
def Xp:af:=jS Xo ⟨12,0,0,0,0⟩
theorem Ug:jc Xo ⟨12,0,0,0,0⟩=⟨0,true,0,0⟩:=by kernel_rfl
def wk4:af:=jS Xp ⟨4,0,0,0,0⟩
theorem Xq:jc Xp ⟨4,0,0,0,0⟩=⟨0,false,0,9⟩:=by kernel_rfl
theorem Uh:lG Xm QS (Df QS):=xw (gX.fits QM) (by decide)
theorem Ui:lG Xn QS (oh (Df QS) ⟨1,0,1,1,0⟩):=((rel_step Uh ⟨1,0,1,1,0⟩).2 (by rw[Ue];rintro⟨_,h⟩;cases h)).1
theorem Xr(ph pc:Nat)(L:aX)(W:World)(h:Hp)(hi:In W ((ph,aC pc)::h))(hc:ah pc L Xm h):Calls Tryz.prog 19 #[.pointer (some ⟨ph,0,none⟩), .agg #[.int .i64 1, .int .i64 0, .int .i64 1, .int .i64 1, .int .u64 0]] W fun e w'=>e= .returned (.agg #[.int .i64 0, .bool false, .int .i64 0, .int .u64 0])/\ ∃h',ah pc L Xn h'/\aj ((ph,aC pc)::h) ((ph,aC pc)::h') W w':=by
 have:=mQ ph pc L Uh.tied ⟨1,0,1,1,0⟩ ⟨⟨by decide,by decide⟩,⟨by decide,by decide⟩,⟨by decide,by decide⟩,⟨by decide,by decide⟩⟩ W h hi hc
 rw[Ue]at this
 exact this
theorem Uj:lG Xo QS (oh (oh (Df QS) ⟨1,0,1,1,0⟩) ⟨5,0,0,0,9⟩):=((rel_step Ui ⟨5,0,0,0,9⟩).2 (by rw[Uf];rintro⟨_,h⟩;cases h)).1
theorem Xt(ph pc:Nat)(L:aX)(W:World)(h:Hp)(hi:In W ((ph,aC pc)::h))(hc:ah pc L Xn h):Calls Tryz.prog 19 #[.pointer (some ⟨ph,0,none⟩), .agg #[.int .i64 5, .int .i64 0, .int .i64 0, .int .i64 0, .int .u64 9]] W fun e w'=>e= .returned (.agg #[.int .i64 0, .bool false, .int .i64 0, .int .u64 0])/\ ∃h',ah pc L Xo h'/\aj ((ph,aC pc)::h) ((ph,aC pc)::h') W w':=by
 have:=mQ ph pc L Ui.tied ⟨5,0,0,0,9⟩ ⟨⟨by decide,by decide⟩,⟨by decide,by decide⟩,⟨by decide,by decide⟩,⟨by decide,by decide⟩⟩ W h hi hc
 rw[Uf]at this
 exact this
theorem Xu:lG Xp QS (oh (oh (oh (Df QS) ⟨1,0,1,1,0⟩) ⟨5,0,0,0,9⟩) ⟨12,0,0,0,0⟩):=((rel_step Uj ⟨12,0,0,0,0⟩).2 (by rw[Ug];rintro⟨_,h⟩;cases h)).1
theorem Xv(ph pc:Nat)(L:aX)(W:World)(h:Hp)(hi:In W ((ph,aC pc)::h))(hc:ah pc L Xo h):Calls Tryz.prog 19 #[.pointer (some ⟨ph,0,none⟩), .agg #[.int .i64 12, .int .i64 0, .int .i64 0, .int .i64 0, .int .u64 0]] W fun e w'=>e= .returned (.agg #[.int .i64 0, .bool true, .int .i64 0, .int .u64 0])/\ ∃h',ah pc L Xp h'/\aj ((ph,aC pc)::h) ((ph,aC pc)::h') W w':=by
 have:=mQ ph pc L Uj.tied ⟨12,0,0,0,0⟩ ⟨⟨by decide,by decide⟩,⟨by decide,by decide⟩,⟨by decide,by decide⟩,⟨by decide,by decide⟩⟩ W h hi hc
 rw[Ug]at this
 exact this
theorem Xw(ph pc:Nat)(L:aX)(W:World)(h:Hp)(hi:In W ((ph,aC pc)::h))(hc:ah pc L Xp h):Calls Tryz.prog 19 #[.pointer (some ⟨ph,0,none⟩), .agg #[.int .i64 4, .int .i64 0, .int .i64 0, .int .i64 0, .int .u64 0]] W fun e w'=>e= .returned (.agg #[.int .i64 0, .bool false, .int .i64 0, .int .u64 9])/\ ∃h',ah pc L wk4 h'/\aj ((ph,aC pc)::h) ((ph,aC pc)::h') W w':=by
 have:=mQ ph pc L Xu.tied ⟨4,0,0,0,0⟩ ⟨⟨by decide,by decide⟩,⟨by decide,by decide⟩,⟨by decide,by decide⟩,⟨by decide,by decide⟩⟩ W h hi hc
 rw[Xq]at this
 exact this
theorem Ov(w:World):Calls Tryz.prog 16 #[] w fun e w'=>e= .returned (.bool true)/\aj [] [] w w':=by
 go_enter Tryz.func16,Tryz.ntmps16
 go_wp2_with(first
  | (go_at_call 26;refine Calls.mono (CZ 3 40 80 20 ⟨by decide,by decide⟩ ⟨by decide,by decide⟩ ⟨by decide,by decide⟩ ⟨by decide,by decide⟩ _) ?_;rintro e v0 ⟨rfl,x0⟩)
  | (go_at_call 17;refine Calls.mono (uu _ QM _) ?_;rintro e w0 ⟨ph,pc,L,h0,rfl,c00,u0⟩;have c0:ah pc L Xm h0:=c00;clear c00;have U0:=x0.trans u0)
  | (go_at_call 19;with_reducible refine Calls.mono (Xr ph pc L _ _ U0.au c0) ?_;rintro e w1 ⟨rfl,h1,c1,u1⟩;have U1:=(U0.trans u1).alloc' (.cells #[.int .i64 0, .bool false, .int .i64 0, .int .u64 0] 35 (0,0));clear U0 c0)
  | (go_at_call 19;with_reducible refine Calls.mono (Xt ph pc L _ _ U1.au.tail c1) ?_;rintro e w2 ⟨rfl,h2,c2,u2⟩;have U2:=(aj.dP (x:=[(w1.heap.size,(.cells #[.int .i64 0, .bool false, .int .i64 0, .int .u64 0] 35 (0,0)))]) U1 u2).alloc' (.cells #[.int .i64 0, .bool false, .int .i64 0, .int .u64 0] 35 (0,0));clear U1 c1)
  | (go_at_call 19;with_reducible refine Calls.mono (Xv ph pc L _ _ U2.au.tail.tail c2) ?_;rintro e w3 ⟨rfl,h3,c3,u3⟩;have U3:=(aj.dP (x:=[(w2.heap.size,(.cells #[.int .i64 0, .bool false, .int .i64 0, .int .u64 0] 35 (0,0))),(w1.heap.size,(.cells #[.int .i64 0, .bool false, .int .i64 0, .int .u64 0] 35 (0,0)))]) U2 u3).alloc' (.cells #[.int .i64 0, .bool true, .int .i64 0, .int .u64 0] 35 (0,0));clear U2 c2)
  | (go_at_call 19;with_reducible refine Calls.mono (Xw ph pc L _ _ U3.au.tail.tail.tail c3) ?_;rintro e w4 ⟨rfl,h4,c4,u4⟩;have U4:=(aj.dP (x:=[(w3.heap.size,(.cells #[.int .i64 0, .bool true, .int .i64 0, .int .u64 0] 35 (0,0))),(w2.heap.size,(.cells #[.int .i64 0, .bool false, .int .i64 0, .int .u64 0] 35 (0,0))),(w1.heap.size,(.cells #[.int .i64 0, .bool false, .int .i64 0, .int .u64 0] 35 (0,0)))]) U3 u4);have U5:=U4.alloc' (.cells #[.int .i64 0, .bool false, .int .i64 0, .int .u64 9] 35 (0,0));have y1:(w4.alloc (.cells #[.int .i64 0, .bool false, .int .i64 0, .int .u64 9] 35 (0,0))).cell? ⟨w1.heap.size,0,none⟩=some (.int .i64 0):=cell_of U5.au.tail.tail.tail.head 0;have y2:(w4.alloc (.cells #[.int .i64 0, .bool false, .int .i64 0, .int .u64 9] 35 (0,0))).cell? ⟨w2.heap.size,0,none⟩=some (.int .i64 0):=cell_of U5.au.tail.tail.head 0;have y3:(w4.alloc (.cells #[.int .i64 0, .bool false, .int .i64 0, .int .u64 9] 35 (0,0))).cell? ⟨w3.heap.size,1,none⟩=some (.bool true):=cell_of U5.au.tail.head 1;clear U3 c3))
 go_ret
 exact⟨by first|rfl|trivial,U5.forget (List.nil_sublist _)⟩
end Go.Proofs.YtibemcgdmembeaaGreat
