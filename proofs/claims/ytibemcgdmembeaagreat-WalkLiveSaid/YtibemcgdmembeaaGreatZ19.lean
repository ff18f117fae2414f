/- ready of package tilthlaw19: a heap that has done a script. Conditions: none. -/
import Derived.Test.YtibemcgdmembeaaGreatRows
import Derived.Test.YtibemcgdmembeaaGreatZL
set_option linter.unusedVariables false
set_option linter.unusedSimpArgs false
set_option maxRecDepth 100000
set_option maxHeartbeats 4000000
namespace Go.Proofs.YtibemcgdmembeaaGreat
open Go.RowKit
theorem Ap(a b c d:Int)(ha:U8 a)(hb:U8 b)(hc:U8 c)(hd:U8 d)(w:World):
  Calls Tryz.prog 34 #[.int .u8 a, .int .u8 b, .int .u8 c, .int .u8 d] w fun e w'=>e= .returned (.agg (aN (fO a b c d)))/\aj [] [] w w':=by
 obtain⟨a1,a2⟩:=ha
 obtain⟨b1,b2⟩:=hb
 obtain⟨c1,c2⟩:=hc
 obtain⟨d1,d2⟩:=hd
 have p0:0<=16+16*(a/64):=by omega
 have q1:(16+16*(a/64)).tdiv 1=16+16*(a/64):=Int.tdiv_one ..
 have q2:(16+16*(a/64)).tdiv 2=(16+16*(a/64))/2:=Int.tdiv_eq_ediv_of_nonneg p0
 have q4:(16+16*(a/64)).tdiv 4=(16+16*(a/64))/4:=Int.tdiv_eq_ediv_of_nonneg p0
 have key: ∀k:Int,(k=0∨k=1∨k=2)->c % 3=k->Calls Tryz.prog 34 #[.int .u8 a, .int .u8 b, .int .u8 c, .int .u8 d] w fun e w'=>e= .returned (.agg (aN (fO a b c d)))/\aj [] [] w w':=by
  intro k hk hm
  rcases hk with rfl|rfl|rfl
  ·have hR:fO a b c d=⟨a % 5+2,24+b % 60,b/16 % 12+1,16+16*(a/64),16+16*(a/64),c/4 % 4,c/16 % 4+1,c/64 % 3+1,d % 8+1,d/8 % 8,d/64*2,12+a % 8,b % 3 % 2⟩:=by simp[fO,hm]
   rw[hR]
   clear hR
   have hw:IntKind.i64.wrap (16+16*(a/64))=16+16*(a/64):=IntWalk.i64_in _ (by omega)
   go_enter Tryz.func34,Tryz.ntmps34
   go_wp2
   have UF:=aj.alloc (In.nil w) (.cells (aN ⟨a % 5+2,24+b % 60,b/16 % 12+1,16+16*(a/64),16+16*(a/64),c/4 % 4,c/16 % 4+1,c/64 % 3+1,d % 8+1,d/8 % 8,d/64*2,12+a % 8,b % 3 % 2⟩) 23 (0,0))
   obtain⟨g0,g1,g2,g3,g4,g5,g6,g7,g8,g9,g10,g11,g12⟩:=dY UF.au.head
   simp only[aN]at g0 g1 g2 g3 g4 g5 g6 g7 g8 g9 g10 g11 g12
   refine bodyPost_ret (v:= .agg (aN ⟨a % 5+2,24+b % 60,b/16 % 12+1,16+16*(a/64),16+16*(a/64),c/4 % 4,c/16 % 4+1,c/64 % 3+1,d % 8+1,d/8 % 8,d/64*2,12+a % 8,b % 3 % 2⟩)) ?_ rfl ⟨rfl,UF.drop1⟩
   simp only[results,Tryz.results34]
   simp[go_sem,aN,g0,g1,g2,g3,g4,g5,g6,g7,g8,g9,g10,g11,g12]
  ·have hR:fO a b c d=⟨a % 5+2,24+b % 60,b/16 % 12+1,16+16*(a/64),(16+16*(a/64))/2,c/4 % 4,c/16 % 4+1,c/64 % 3+1,d % 8+1,d/8 % 8,d/64*2,12+a % 8,b % 3 % 2⟩:=by simp[fO,hm]
   rw[hR]
   clear hR
   have hw:IntKind.i64.wrap ((16+16*(a/64))/2)=(16+16*(a/64))/2:=IntWalk.i64_in _ (by omega)
   go_enter Tryz.func34,Tryz.ntmps34
   go_wp2
   have UF:=aj.alloc (In.nil w) (.cells (aN ⟨a % 5+2,24+b % 60,b/16 % 12+1,16+16*(a/64),(16+16*(a/64))/2,c/4 % 4,c/16 % 4+1,c/64 % 3+1,d % 8+1,d/8 % 8,d/64*2,12+a % 8,b % 3 % 2⟩) 23 (0,0))
   obtain⟨g0,g1,g2,g3,g4,g5,g6,g7,g8,g9,g10,g11,g12⟩:=dY UF.au.head
   simp only[aN]at g0 g1 g2 g3 g4 g5 g6 g7 g8 g9 g10 g11 g12
   refine bodyPost_ret (v:= .agg (aN ⟨a % 5+2,24+b % 60,b/16 % 12+1,16+16*(a/64),(16+16*(a/64))/2,c/4 % 4,c/16 % 4+1,c/64 % 3+1,d % 8+1,d/8 % 8,d/64*2,12+a % 8,b % 3 % 2⟩)) ?_ rfl ⟨rfl,UF.drop1⟩
   simp only[results,Tryz.results34]
   simp[go_sem,aN,g0,g1,g2,g3,g4,g5,g6,g7,g8,g9,g10,g11,g12]
  ·have hR:fO a b c d=⟨a % 5+2,24+b % 60,b/16 % 12+1,16+16*(a/64),(16+16*(a/64))/4,c/4 % 4,c/16 % 4+1,c/64 % 3+1,d % 8+1,d/8 % 8,d/64*2,12+a % 8,b % 3 % 2⟩:=by simp[fO,hm]
   rw[hR]
   clear hR
   have hw:IntKind.i64.wrap ((16+16*(a/64))/4)=(16+16*(a/64))/4:=IntWalk.i64_in _ (by omega)
   go_enter Tryz.func34,Tryz.ntmps34
   go_wp2
   have UF:=aj.alloc (In.nil w) (.cells (aN ⟨a % 5+2,24+b % 60,b/16 % 12+1,16+16*(a/64),(16+16*(a/64))/4,c/4 % 4,c/16 % 4+1,c/64 % 3+1,d % 8+1,d/8 % 8,d/64*2,12+a % 8,b % 3 % 2⟩) 23 (0,0))
   obtain⟨g0,g1,g2,g3,g4,g5,g6,g7,g8,g9,g10,g11,g12⟩:=dY UF.au.head
   simp only[aN]at g0 g1 g2 g3 g4 g5 g6 g7 g8 g9 g10 g11 g12
   refine bodyPost_ret (v:= .agg (aN ⟨a % 5+2,24+b % 60,b/16 % 12+1,16+16*(a/64),(16+16*(a/64))/4,c/4 % 4,c/16 % 4+1,c/64 % 3+1,d % 8+1,d/8 % 8,d/64*2,12+a % 8,b % 3 % 2⟩)) ?_ rfl ⟨rfl,UF.drop1⟩
   simp only[results,Tryz.results34]
   simp[go_sem,aN,g0,g1,g2,g3,g4,g5,g6,g7,g8,g9,g10,g11,g12]
 exact key (c % 3) (by omega) rfl
end Go.Proofs.YtibemcgdmembeaaGreat
namespace Go.Proofs.YtibemcgdmembeaaGreat
open Go.RowKit
def FZ:gX:=fO 3 40 80 20
theorem OC:FZ.ok=true:=by kernel_rfl
def F5:af:=gJ FZ
def Tv:a_:=Df FZ
def F6:af:=jS F5 ⟨1,0,1,1,0⟩
def Tz:a_:=oh Tv ⟨1,0,1,1,0⟩
theorem OD:jc F5 ⟨1,0,1,1,0⟩=⟨0,false,0,0⟩:=by kernel_rfl
def F7:af:=jS F6 ⟨1,1,0,2,0⟩
def TA:a_:=oh Tz ⟨1,1,0,2,0⟩
theorem OE:jc F6 ⟨1,1,0,2,0⟩=⟨0,false,0,0⟩:=by kernel_rfl
def F8:af:=jS F7 ⟨3,0,0,1,0⟩
def TB:a_:=oh TA ⟨3,0,0,1,0⟩
theorem OG:jc F7 ⟨3,0,0,1,0⟩=⟨0,false,0,0⟩:=by kernel_rfl
def oP:af:=jS F8 ⟨6,1,0,0,0⟩
def KF:a_:=oh TB ⟨6,1,0,0,0⟩
theorem OH:jc F8 ⟨6,1,0,0,0⟩=⟨0,false,0,0⟩:=by kernel_rfl
theorem OI:lG F5 FZ Tv:=xw (gX.fits OC) (by decide)
theorem OJ:lG F6 FZ Tz:=((rel_step OI ⟨1,0,1,1,0⟩).2 (by rw[OD];rintro⟨_,h⟩;cases h)).1
theorem Uk(ph pc:Nat)(L:aX)(W:World)(h:Hp)(hi:In W ((ph,aC pc)::h))(hc:ah pc L F5 h):Calls Tryz.prog 19 #[.pointer (some ⟨ph,0,none⟩), .agg #[.int .i64 1, .int .i64 0, .int .i64 1, .int .i64 1, .int .u64 0]] W fun e w'=>e= .returned (.agg #[.int .i64 0, .bool false, .int .i64 0, .int .u64 0])/\ ∃h',ah pc L F6 h'/\aj ((ph,aC pc)::h) ((ph,aC pc)::h') W w':=by
 have:=mQ ph pc L OI.tied ⟨1,0,1,1,0⟩ ⟨⟨by decide,by decide⟩,⟨by decide,by decide⟩,⟨by decide,by decide⟩,⟨by decide,by decide⟩⟩ W h hi hc
 rw[OD]at this
 exact this
theorem OL:lG F7 FZ TA:=((rel_step OJ ⟨1,1,0,2,0⟩).2 (by rw[OE];rintro⟨_,h⟩;cases h)).1
theorem Ul(ph pc:Nat)(L:aX)(W:World)(h:Hp)(hi:In W ((ph,aC pc)::h))(hc:ah pc L F6 h):Calls Tryz.prog 19 #[.pointer (some ⟨ph,0,none⟩), .agg #[.int .i64 1, .int .i64 1, .int .i64 0, .int .i64 2, .int .u64 0]] W fun e w'=>e= .returned (.agg #[.int .i64 0, .bool false, .int .i64 0, .int .u64 0])/\ ∃h',ah pc L F7 h'/\aj ((ph,aC pc)::h) ((ph,aC pc)::h') W w':=by
 have:=mQ ph pc L OJ.tied ⟨1,1,0,2,0⟩ ⟨⟨by decide,by decide⟩,⟨by decide,by decide⟩,⟨by decide,by decide⟩,⟨by decide,by decide⟩⟩ W h hi hc
 rw[OE]at this
 exact this
theorem OM:lG F8 FZ TB:=((rel_step OL ⟨3,0,0,1,0⟩).2 (by rw[OG];rintro⟨_,h⟩;cases h)).1
theorem Um(ph pc:Nat)(L:aX)(W:World)(h:Hp)(hi:In W ((ph,aC pc)::h))(hc:ah pc L F7 h):Calls Tryz.prog 19 #[.pointer (some ⟨ph,0,none⟩), .agg #[.int .i64 3, .int .i64 0, .int .i64 0, .int .i64 1, .int .u64 0]] W fun e w'=>e= .returned (.agg #[.int .i64 0, .bool false, .int .i64 0, .int .u64 0])/\ ∃h',ah pc L F8 h'/\aj ((ph,aC pc)::h) ((ph,aC pc)::h') W w':=by
 have:=mQ ph pc L OL.tied ⟨3,0,0,1,0⟩ ⟨⟨by decide,by decide⟩,⟨by decide,by decide⟩,⟨by decide,by decide⟩,⟨by decide,by decide⟩⟩ W h hi hc
 rw[OG]at this
 exact this
theorem IV:lG oP FZ KF:=((rel_step OM ⟨6,1,0,0,0⟩).2 (by rw[OH];rintro⟨_,h⟩;cases h)).1
theorem Un(ph pc:Nat)(L:aX)(W:World)(h:Hp)(hi:In W ((ph,aC pc)::h))(hc:ah pc L F8 h):Calls Tryz.prog 19 #[.pointer (some ⟨ph,0,none⟩), .agg #[.int .i64 6, .int .i64 1, .int .i64 0, .int .i64 0, .int .u64 0]] W fun e w'=>e= .returned (.agg #[.int .i64 0, .bool false, .int .i64 0, .int .u64 0])/\ ∃h',ah pc L oP h'/\aj ((ph,aC pc)::h) ((ph,aC pc)::h') W w':=by
 have:=mQ ph pc L OM.tied ⟨6,1,0,0,0⟩ ⟨⟨by decide,by decide⟩,⟨by decide,by decide⟩,⟨by decide,by decide⟩,⟨by decide,by decide⟩⟩ W h hi hc
 rw[OH]at this
 exact this
theorem EL:KF.nodes.length=3:=by kernel_rfl
theorem LM:KF.qF=[⟨[2],[0]⟩,⟨[],[0,0]⟩]:=by kernel_rfl
theorem OO:KF.xx=[1,0,0,0,0]:=by kernel_rfl
theorem OQ:(oP.oQ (3+1)).length=2:=by kernel_rfl
theorem Uo:lY ((oP.oQ (3+1)).map oP.oL)=8:=by kernel_rfl
theorem Ur:lY ((oP.oQ (3+1)).map oP.zS)=0:=by kernel_rfl
theorem TC:oP.C.page=16:=by kernel_rfl
theorem LP(pc:Nat)(L:aX)(W:World)(h:Hp)(hi:In W h)(hc:ah pc L oP h):Calls Tryz.prog 37 #[.pointer (some ⟨pc,0,none⟩)] W fun e w'=>e= .returned (.tuple #[.int .i64 8, .int .i64 0])/\ ∃h',ah pc L oP h'/\aj h h' W w':=by
 obtain⟨Ok,m1,m2,m3,m4,m5⟩:=yE IV
 rw[EL]at m1 m2
 have:=IW pc L oP 3 (by decide) Ok m1 _ rfl m2 (by rw[TC];decide) (by rw[TC];decide) W h hi hc
 rw[Uo,Ur]at this
 exact this
theorem OT(pc:Nat)(L:aX)(W:World)(h:Hp)(hi:In W h)(hc:ah pc L oP h):Calls Tryz.prog 38 #[.pointer (some ⟨pc,0,none⟩)] W fun e w'=> ∃ao cap h1 h2,e= .returned (.slice ao 2 cap)/\ah pc L oP h2/\aj h (h1++h2) W w':=by
 obtain⟨Ok,m1,m2,m3,m4,m5⟩:=yE IV
 rw[EL]at m1
 refine(yF pc L oP 3 (by decide) Ok m1 W h hi hc).mono ?_
 rintro e w' ⟨v,h1,h2,rfl,s1,c1,u1⟩
 rw[OQ]at s1
 obtain⟨ao,cap,rfl,_⟩:=s1.shape
 exact⟨ao,cap,h1,h2,rfl,c1,u1⟩
theorem LQ(pc:Nat)(L:aX)(W:World)(h:Hp)(hi:In W h)(hc:ah pc L oP h):Calls Tryz.prog 22 #[.pointer (some ⟨pc,0,none⟩)] W fun e w'=> ∃v1 v2 hx h',e= .returned (.tuple #[v1,v2])/\ah pc L oP h'/\aj h (hx++h') W w'/\ ∀W,In W hx->mV W v1 [⟨[2],[0]⟩,⟨[],[0,0]⟩]/\pK W v2 [1,0,0,0,0]:=by
 have:=Aq pc L IV (by rw[EL];decide) W h hi hc
 rw[LM,OO]at this
 exact this
theorem OU{W:World}{v1 v2:Value}(h1:mV W v1 [⟨[2],[0]⟩,⟨[],[0,0]⟩])(h2:pK W v2 [1,0,0,0,0]): ∃g1 o1 c1 g2 o2 c2 gp op cp,v1= .slice (some ⟨g1,o1,none⟩) 2 c1/\v2= .slice (some ⟨g2,o2,none⟩) 5 c2/\
  W.cell? ⟨g1,o1,none⟩=some (.slice (some ⟨gp,op,none⟩) 1 cp)/\W.cell? ⟨gp,op,none⟩=some (.int .i64 2)/\W.cell? ⟨g2,o2,none⟩=some (.int .i64 1)/\W.cell? ⟨g2,o2+1,none⟩=some (.int .i64 0):=by
 obtain⟨ao1,cap1,rfl⟩:=h1.shape
 obtain⟨VS,cap2,rfl⟩:=h2.shape
 obtain⟨g1,o1,ap,cp,ac,cs,rfl,d1,d2,d3,d4⟩:=h1.at (i:=0) (by decide)
 obtain⟨g2,o2,rfl,f1⟩:=h2.at (i:=0) (by decide)
 obtain⟨g3,o3,e3,f2⟩:=h2.at (i:=1) (by decide)
 obtain⟨gp,op,rfl,d5⟩:=d3 0 (by decide)
 cases e3
 exact⟨g1,o1,cap1,g2,o2,cap2,gp,op,cp,rfl,rfl,d1,d5,f1,f2⟩
theorem QT(w:World):Calls Tryz.prog 75 #[.int .i64 1, .int .i64 0, .int .i64 3] w fun e w'=>e= .returned (.int .i64 1)/\aj [] [] w w':=by
 go_enter Tryz.func75,Tryz.ntmps75
 go_wp2
 go_ret
 exact⟨by first|rfl|trivial,aj.refl (In.nil _)⟩
theorem F9(w:World):Calls Tryz.prog 35 #[] w fun e w'=>e= .returned (.bool true)/\aj [] [] w w':=by
 go_enter Tryz.func35,Tryz.ntmps35
 go_wp2_with(first
  | (go_at_call 34;refine Calls.mono (Ap 3 40 80 20 ⟨by decide,by decide⟩ ⟨by decide,by decide⟩ ⟨by decide,by decide⟩ ⟨by decide,by decide⟩ _) ?_;rintro e v0 ⟨rfl,x0⟩)
  | (go_at_call 17;refine Calls.mono (uu _ OC _) ?_;rintro e w0 ⟨ph,pc,L,h0,rfl,c00,u0⟩;have c0:ah pc L F5 h0:=c00;clear c00;have U0:=x0.trans u0)
  | (go_at_call 19;with_reducible refine Calls.mono (Uk ph pc L _ _ U0.au c0) ?_;rintro e w1 ⟨rfl,h1,c1,u1⟩;have U1:=U0.trans u1;clear U0 c0 u1)
  | (go_at_call 19;with_reducible refine Calls.mono (Ul ph pc L _ _ U1.au c1) ?_;rintro e w2 ⟨rfl,h2,c2,u2⟩;have U2:=U1.trans u2;clear U1 c1 u2)
  | (go_at_call 19;with_reducible refine Calls.mono (Um ph pc L _ _ U2.au c2) ?_;rintro e w3 ⟨rfl,h3,c3,u3⟩;have U3:=U2.trans u3;clear U2 c2 u3)
  | (go_at_call 19;with_reducible refine Calls.mono (Un ph pc L _ _ U3.au c3) ?_;rintro e w4 ⟨rfl,h4,c4,u4⟩;have U4:=U3.trans u4;clear U3 c3 u4)
  | (go_at_call 23;with_reducible refine Calls.mono (ve ph pc _ U4.au.head) ?_;rintro e wa ⟨rfl,rfl⟩;simp only[ptr])
  | (go_at_call 23;with_reducible refine Calls.mono (ve ph pc _ hb5) ?_;rintro e wb ⟨rfl,rfl⟩;simp only[ptr])
  | (go_at_call 23;with_reducible refine Calls.mono (ve ph pc _ hb6) ?_;rintro e wc ⟨rfl,rfl⟩;simp only[ptr])
  | (go_at_call 22;refine Calls.mono (LQ pc L _ _ U4.au.tail c4) ?_;rintro e w5 ⟨v1,v2,hx,h5,rfl,c5,u5,hat⟩;have U5:=U4.trans ((u5.beside (k:=[(ph,aC pc)]) (U4.au.perm (List.perm_append_comm (l₁:=[_])))).perm (List.perm_append_comm (l₂:=[_])) (by rw[List.append_assoc]));have HAt:=Lib.hid hat;have hb5:w5.heap[ph]? =some (aC pc):=U5.au.mem (by simp);clear U4 c4 u5 hat)
  | (go_at_call 37;refine Calls.mono (LP pc L _ _ U5.au.right.left c5) ?_;rintro e w6 ⟨rfl,h6,c6,u6⟩;have U6:=aj.fM U5 (u6.beside U5.au.right);have hb6:w6.heap[ph]? =some (aC pc):=U6.au.mem (by simp);obtain⟨g1,o1,k1,g2,o2,k2,gp,op,cp,rfl,rfl,y1,y2,y3,y4⟩:=OU (HAt.out w6 U6.au.left).1 (HAt.out w6 U6.au.left).2;clear U5 c5 u6 hb5)
  | (go_at_call 38;refine Calls.mono (OT pc L _ _ U6.au.right.left c6) ?_;rintro e w7 ⟨Xx,QU,h7,h8,rfl,c7,u7⟩;have U7:=aj.fM U6 (u7.beside U6.au.right);clear U6 c6 u7 hb6)
  | (go_at_call 75;refine Calls.mono (QT _) ?_;rintro e w8 ⟨rfl,u8⟩;have U8:=U7.dK u8;clear U7 u8))
 go_ret
 exact⟨by first|rfl|trivial,U8.forget (List.nil_sublist _)⟩
end Go.Proofs.YtibemcgdmembeaaGreat
namespace Go.Proofs.YtibemcgdmembeaaGreat
open Go.RowKit
theorem VE(a b c d:Int)(sv:Value)(l:List lM)(ha:U8 a)(hb:U8 b)(hc:U8 c)(hd:U8 d){w:World}(hs:xy w sv l):
  Calls Tryz.prog 39 #[.int .u8 a, .int .u8 b, .int .u8 c, .int .u8 d,sv] w fun e w'=> ∃ph pc L s g h,e= .returned (.pointer (some ⟨ph,0,none⟩))/\lG s (fO a b c d) g/\g.nodes.length<=151/\ah pc L s h/\aj [] ((ph,aC pc)::h) w w':=by
 have hok:=Ar ha hb hc hd
 have Au:=Ap a b c d ha hb hc hd w
 obtain⟨hfit,hlen,ao,cap,rfl,hsh⟩:=hs
 have HSc:=Lib.hid hsh
 have VT:Hid (∀k (h:k<l.length),(l[k]).Xy):=Lib.hid (fun k h=>by
  obtain⟨f0,f1,f2,f3,f4⟩:=hfit _ (List.getElem_mem h)
  exact⟨r_ f1,r_ f2,r_ f3,IX f4⟩)
 have hst:0<=(fO a b c d).stack:=by
  obtain⟨c1,c2⟩:=hc
  show 0<=c/16 % 4+1
  omega
 clear ha hb hc hd hsh hfit
 generalize fO a b c d=C at*
 have HR0:=Lib.hid (xw (gX.fits hok) hst)
 have VU:=Lib.hid hok
 clear hok hst
 have hn:=fun W=>uu C VU.out W
 simp only[aN]at Au hn
 go_enter Tryz.func39,Tryz.ntmps39
 go_wp2_with(first
  | (go_at_call 34;refine Calls.mono Au ?_;rintro e v0 ⟨rfl,x0⟩;clear Au)
  | (go_at_call 17;refine Calls.mono (hn _) ?_;rintro e w0 ⟨ph,pc,L,h0,rfl,c0,u0⟩;have U0:=x0.trans u0;clear x0 u0 hn))
 have HS:Hid (LU ph pc L C 0 w w0):=Lib.hid ⟨gJ C,Df C,h0,HR0.out,Nat.le_refl _,c0,U0⟩
 clear U0 c0 HR0
 go_loopw [13] (fun q wr=> ∃(k:Nat),k<=l.length/\k<=150/\q= .int .i64 k/\Hid (LU ph pc L C k w wr)) (fun q _=>l.length-(intOf q).toNat)
 case atStart=>exact⟨0,by omega,by omega,rfl,HS⟩
 case round=>
  obtain⟨k,hk,hk2,rfl,HW⟩:=hrel
  obtain⟨s,g,h,hR,hg,hC,hU⟩:=HW.out
  clear HS
  by_cases hlt:k<l.length
  ·by_cases VV:k<150
   ·obtain⟨bq,off,rfl,hbl,e0,e1,e2,e3,e4⟩:=HSc.out k hlt
    have hw:=VT.out k hlt
    generalize l[k]=x at*
    have d0:=hU.jT hbl e0
    have d1:=hU.jT hbl e1
    have d2:=hU.jT hbl e2
    have d3:=hU.jT hbl e3
    have d4:=hU.jT hbl e4
    have XQ:=Lib.hid (KG hR x)
    have hT:=hR.tied
    have QN:=Lib.hid (fun W h (hi:In W ((ph,aC pc)::h)) (hc:ah pc L s h)=>mQ ph pc L hT x hw W h hi hc)
    obtain⟨x1,x2,x3,x4,x5⟩:=x
    simp only at d0 d1 d2 d3 d4
    generalize jc s ⟨x1,x2,x3,x4,x5⟩=A at*
    generalize jS s ⟨x1,x2,x3,x4,x5⟩=s' at*
    obtain⟨A1,A2,A3,A4⟩:=A
    have HU:=Lib.hid hU
    have HC:=Lib.hid hC
    simp only[ak,ai]at QN
    clear e0 e1 e2 e3 e4 hU hC HW hw hT hR
    go_wp2_with(go_at_call 19;refine Calls.mono (QN.out _ _ HU.out.au HC.out) ?_;rintro e w4 ⟨rfl,h4,c4,u4⟩;have C4:=Lib.hid c4;have U4:=Lib.hid (HU.out.trans u4);clear u4 c4)
    go_roundw
    case rel=>
     obtain⟨g',q1,q2⟩:=XQ.out
     exact⟨k+1,by omega,by omega,by go_num,Lib.hid ⟨s',g',h4,q1,by omega,C4.out,U4.out⟩⟩
    case measure=>simp[intOf];omega
   ·have HU:=Lib.hid hU
    have HC:=Lib.hid hC
    have HR:=Lib.hid hR
    clear HW hU hC hR
    go_wp2
    go_ret
    exact⟨ph,pc,L,s,g,h,rfl,HR.out,by omega,HC.out,HU.out⟩
  ·have HU:=Lib.hid hU
   have HC:=Lib.hid hC
   have HR:=Lib.hid hR
   clear HW hU hC hR
   go_wp2
   go_ret
   exact⟨ph,pc,L,s,g,h,rfl,HR.out,by omega,HC.out,HU.out⟩
end Go.Proofs.YtibemcgdmembeaaGreat
