/- What make of package heap comes to. Conditions: a heap that holds a graph. -/
import Derived.Test.YtibemcgdmembeaaGreatRows
import Derived.Test.YtibemcgdmembeaaGreatZJ
set_option linter.unusedVariables false
set_option linter.unusedSimpArgs false
set_option maxRecDepth 100000
set_option maxHeartbeats 4000000
namespace Go.Proofs.YtibemcgdmembeaaGreat
open Go.RowKit
def EF(b:Int):Int:=max 0 (min b 1048576)
theorem Qy(ph pc:Nat)(b c v:Int)(n:Int)(w:World)(h:Hp)(Q:Hp->Prop)(hi:In w ((ph,aC pc)::h))
  (hcall: ∀W,In W h->Calls Tryz.prog 104 #[ptr pc, .int .i64 (max 0 (min b 1048576))] W fun en w'=>en= .returned (.int .i64 n)/\ ∃h',Q h'/\aj h h' W w'):
  Calls Tryz.prog 53 #[.pointer (some ⟨ph,0,none⟩), .agg (ak ⟨11,0,b,c,v⟩)] w fun en w'=>en= .returned (.agg (ai ⟨0,false,n,0⟩))/\ ∃h',Q h'/\aj ((ph,aC pc)::h) ((ph,aC pc)::h') w w':=by
 have U0:=((aj.refl hi).alloc' (.cells (ak ⟨11,0,b,c,v⟩) 38 (0,0))).alloc' (.cells (ai aT) 35 (0,0))
 have hs1:(w.alloc (.cells (ak ⟨11,0,b,c,v⟩) 38 (0,0))).heap.size=w.heap.size+1:=by simp
 rw[hs1]at U0
 clear hs1
 have own:w.cell? ⟨ph,0,none⟩=some (.pointer (some ⟨pc,0,none⟩)):=cell_of hi.head 0
 have hpl:ph<w.heap.size:=World.block_lt_of_cell? _ _ own
 have hc1:=hcall _ U0.au.tail.tail.tail
 have U0:=Lib.hid U0
 clear hcall hi
 simp only[ptr,ak,ai,aT]at hc1
 go_enter Tryz.func53,Tryz.ntmps53
 simp only[ak]
 go_wp2_with(go_at_call 104;refine Calls.mono hc1 ?_;rintro en w1 ⟨rfl,h',hq,u1⟩;have U1:=Lib.hid (aj.dP (x:=[(w.heap.size+1, .cells (ai aT) 35 (0,0)),(w.heap.size, .cells (ak ⟨11,0,b,c,v⟩) 38 (0,0)),(ph,aC pc)]) U0.out u1);have X1:=aW (x:=aT) (y:=⟨11,0,b,c,v⟩) U1.out;(obtain⟨d0,d1,d2,d3⟩:=X1.2.2.1);(obtain⟨f0,f1,f2,f3⟩:=X1.2.2.2);simp only[aT]at d0 d1 d2 d3;clear hc1)
 have UF:=aj.lV (x:=aT) U1.out ⟨0,false,n,0⟩
 have G:=bK UF.au.head
 simp only at G
 obtain⟨g0,g1,g2,g3⟩:=G
 clear d0 d1 d2 d3 f0 f1 f2 f3 X1
 refine bodyPost_ret (v:= .agg (ai ⟨0,false,n,0⟩)) ?_ rfl ⟨rfl,h',hq,UF.drop1.drop1⟩
 simp only[results,Tryz.results53]
 simp[go_sem,ai,g0,g1,g2,g3]
theorem Qz(ph pc:Nat)(b c v:Int)(n:Int)(w:World)(h:Hp)(Q:Hp->Prop)(hi:In w ((ph,aC pc)::h))
  (hcall: ∀W,In W h->Calls Tryz.prog 105 #[ptr pc, .int .i64 (max 0 (min b 1048576))] W fun en w'=>en= .returned (.int .i64 n)/\ ∃h',Q h'/\aj h h' W w'):
  Calls Tryz.prog 53 #[.pointer (some ⟨ph,0,none⟩), .agg (ak ⟨11,1,b,c,v⟩)] w fun en w'=>en= .returned (.agg (ai ⟨0,false,n,0⟩))/\ ∃h',Q h'/\aj ((ph,aC pc)::h) ((ph,aC pc)::h') w w':=by
 have U0:=((aj.refl hi).alloc' (.cells (ak ⟨11,1,b,c,v⟩) 38 (0,0))).alloc' (.cells (ai aT) 35 (0,0))
 have hs1:(w.alloc (.cells (ak ⟨11,1,b,c,v⟩) 38 (0,0))).heap.size=w.heap.size+1:=by simp
 rw[hs1]at U0
 clear hs1
 have own:w.cell? ⟨ph,0,none⟩=some (.pointer (some ⟨pc,0,none⟩)):=cell_of hi.head 0
 have hpl:ph<w.heap.size:=World.block_lt_of_cell? _ _ own
 have hc1:=hcall _ U0.au.tail.tail.tail
 have U0:=Lib.hid U0
 clear hcall hi
 simp only[ptr,ak,ai,aT]at hc1
 go_enter Tryz.func53,Tryz.ntmps53
 simp only[ak]
 go_wp2_with(go_at_call 105;refine Calls.mono hc1 ?_;rintro en w1 ⟨rfl,h',hq,u1⟩;have U1:=Lib.hid (aj.dP (x:=[(w.heap.size+1, .cells (ai aT) 35 (0,0)),(w.heap.size, .cells (ak ⟨11,1,b,c,v⟩) 38 (0,0)),(ph,aC pc)]) U0.out u1);have X1:=aW (x:=aT) (y:=⟨11,1,b,c,v⟩) U1.out;(obtain⟨d0,d1,d2,d3⟩:=X1.2.2.1);(obtain⟨f0,f1,f2,f3⟩:=X1.2.2.2);simp only[aT]at d0 d1 d2 d3;clear hc1)
 have UF:=aj.lV (x:=aT) U1.out ⟨0,false,n,0⟩
 have G:=bK UF.au.head
 simp only at G
 obtain⟨g0,g1,g2,g3⟩:=G
 clear d0 d1 d2 d3 f0 f1 f2 f3 X1
 refine bodyPost_ret (v:= .agg (ai ⟨0,false,n,0⟩)) ?_ rfl ⟨rfl,h',hq,UF.drop1.drop1⟩
 simp only[results,Tryz.results53]
 simp[go_sem,ai,g0,g1,g2,g3]
theorem Ol(ph pc:Nat)(b c v:Int)(y:Bool)(w:World)(h:Hp)(Q:Hp->Prop)(hi:In w ((ph,aC pc)::h))
  (hcall: ∀W,In W h->Calls Tryz.prog 73 #[ptr pc] W fun en w'=>en= .returned (.bool y)/\ ∃h',Q h'/\aj h h' W w'):
  Calls Tryz.prog 54 #[.pointer (some ⟨ph,0,none⟩), .agg (ak ⟨12,0,b,c,v⟩)] w fun en w'=>en= .returned (.agg (ai ⟨0,y,0,0⟩))/\ ∃h',Q h'/\aj ((ph,aC pc)::h) ((ph,aC pc)::h') w w':=by
 have U0:=((aj.refl hi).alloc' (.cells (ak ⟨12,0,b,c,v⟩) 38 (0,0))).alloc' (.cells (ai aT) 35 (0,0))
 have hs1:(w.alloc (.cells (ak ⟨12,0,b,c,v⟩) 38 (0,0))).heap.size=w.heap.size+1:=by simp
 rw[hs1]at U0
 clear hs1
 have own:w.cell? ⟨ph,0,none⟩=some (.pointer (some ⟨pc,0,none⟩)):=cell_of hi.head 0
 have hpl:ph<w.heap.size:=World.block_lt_of_cell? _ _ own
 have hc1:=hcall _ U0.au.tail.tail.tail
 have U0:=Lib.hid U0
 clear hcall hi
 simp only[ptr,ak,ai,aT]at hc1
 go_enter Tryz.func54,Tryz.ntmps54
 simp only[ak]
 go_wp2_with(go_at_call 73;refine Calls.mono hc1 ?_;rintro en w1 ⟨rfl,h',hq,u1⟩;have U1:=Lib.hid (aj.dP (x:=[(w.heap.size+1, .cells (ai aT) 35 (0,0)),(w.heap.size, .cells (ak ⟨12,0,b,c,v⟩) 38 (0,0)),(ph,aC pc)]) U0.out u1);have X1:=aW (x:=aT) (y:=⟨12,0,b,c,v⟩) U1.out;(obtain⟨d0,d1,d2,d3⟩:=X1.2.2.1);(obtain⟨f0,f1,f2,f3⟩:=X1.2.2.2);simp only[aT]at d0 d1 d2 d3;clear hc1)
 have UF:=aj.lV (x:=aT) U1.out ⟨0,y,0,0⟩
 have G:=bK UF.au.head
 simp only at G
 obtain⟨g0,g1,g2,g3⟩:=G
 clear d0 d1 d2 d3 f0 f1 f2 f3 X1
 refine bodyPost_ret (v:= .agg (ai ⟨0,y,0,0⟩)) ?_ rfl ⟨rfl,h',hq,UF.drop1.drop1⟩
 simp only[results,Tryz.results54]
 simp[go_sem,ai,g0,g1,g2,g3]
theorem Om(ph pc:Nat)(b c v:Int)(y:Bool)(w:World)(h:Hp)(Q:Hp->Prop)(hi:In w ((ph,aC pc)::h))
  (hcall: ∀W,In W h->Calls Tryz.prog 72 #[ptr pc] W fun en w'=>en= .returned (.bool y)/\ ∃h',Q h'/\aj h h' W w'):
  Calls Tryz.prog 54 #[.pointer (some ⟨ph,0,none⟩), .agg (ak ⟨12,1,b,c,v⟩)] w fun en w'=>en= .returned (.agg (ai ⟨0,y,0,0⟩))/\ ∃h',Q h'/\aj ((ph,aC pc)::h) ((ph,aC pc)::h') w w':=by
 have U0:=((aj.refl hi).alloc' (.cells (ak ⟨12,1,b,c,v⟩) 38 (0,0))).alloc' (.cells (ai aT) 35 (0,0))
 have hs1:(w.alloc (.cells (ak ⟨12,1,b,c,v⟩) 38 (0,0))).heap.size=w.heap.size+1:=by simp
 rw[hs1]at U0
 clear hs1
 have own:w.cell? ⟨ph,0,none⟩=some (.pointer (some ⟨pc,0,none⟩)):=cell_of hi.head 0
 have hpl:ph<w.heap.size:=World.block_lt_of_cell? _ _ own
 have hc1:=hcall _ U0.au.tail.tail.tail
 have U0:=Lib.hid U0
 clear hcall hi
 simp only[ptr,ak,ai,aT]at hc1
 go_enter Tryz.func54,Tryz.ntmps54
 simp only[ak]
 go_wp2_with(go_at_call 72;refine Calls.mono hc1 ?_;rintro en w1 ⟨rfl,h',hq,u1⟩;have U1:=Lib.hid (aj.dP (x:=[(w.heap.size+1, .cells (ai aT) 35 (0,0)),(w.heap.size, .cells (ak ⟨12,1,b,c,v⟩) 38 (0,0)),(ph,aC pc)]) U0.out u1);have X1:=aW (x:=aT) (y:=⟨12,1,b,c,v⟩) U1.out;(obtain⟨d0,d1,d2,d3⟩:=X1.2.2.1);(obtain⟨f0,f1,f2,f3⟩:=X1.2.2.2);simp only[aT]at d0 d1 d2 d3;clear hc1)
 have UF:=aj.lV (x:=aT) U1.out ⟨0,y,0,0⟩
 have G:=bK UF.au.head
 simp only at G
 obtain⟨g0,g1,g2,g3⟩:=G
 clear d0 d1 d2 d3 f0 f1 f2 f3 X1
 refine bodyPost_ret (v:= .agg (ai ⟨0,y,0,0⟩)) ?_ rfl ⟨rfl,h',hq,UF.drop1.drop1⟩
 simp only[results,Tryz.results54]
 simp[go_sem,ai,g0,g1,g2,g3]
theorem QA(R:Value)(a b c v:Int)(h0:a≠0)(h1:a≠1)(w:World)(h:Hp)(hi:In w h):
  Calls Tryz.prog 53 #[R, .agg (ak ⟨11,a,b,c,v⟩)] w fun en w'=>en= .returned (.agg (ai ⟨1,false,0,0⟩))/\aj h h w w':=by
 have U0:=((aj.refl hi).alloc' (.cells (ak ⟨11,a,b,c,v⟩) 38 (0,0))).alloc' (.cells (ai ⟨1,false,0,0⟩) 35 (0,0))
 have n0:(a==0)=false:=by simpa using h0
 have n1:(a==1)=false:=by simpa using h1
 have hs1:(w.alloc (.cells (ak ⟨11,a,b,c,v⟩) 38 (0,0))).heap.size=w.heap.size+1:=by simp
 rw[hs1]at U0
 clear hs1 h0 h1
 have U9:=Lib.hid U0
 clear U0
 simp only[ak,ai,aT]at*
 go_enter Tryz.func53,Tryz.ntmps53
 go_wp2
 have G:=bK (x:=⟨1,false,0,0⟩) U9.out.au.head
 simp only at G
 obtain⟨g0,g1,g2,g3⟩:=G
 refine bodyPost_ret (v:= .agg (ai ⟨1,false,0,0⟩)) ?_ rfl ⟨rfl,U9.out.drop1.drop1⟩
 simp only[results,Tryz.results53]
 simp[go_sem,ai,g0,g1,g2,g3]
theorem Oo(R:Value)(a b c v:Int)(h0:a≠0)(h1:a≠1)(w:World)(h:Hp)(hi:In w h):
  Calls Tryz.prog 54 #[R, .agg (ak ⟨12,a,b,c,v⟩)] w fun en w'=>en= .returned (.agg (ai ⟨1,false,0,0⟩))/\aj h h w w':=by
 have U0:=((aj.refl hi).alloc' (.cells (ak ⟨12,a,b,c,v⟩) 38 (0,0))).alloc' (.cells (ai ⟨1,false,0,0⟩) 35 (0,0))
 have n0:(a==0)=false:=by simpa using h0
 have n1:(a==1)=false:=by simpa using h1
 have hs1:(w.alloc (.cells (ak ⟨12,a,b,c,v⟩) 38 (0,0))).heap.size=w.heap.size+1:=by simp
 rw[hs1]at U0
 clear hs1 h0 h1
 have U9:=Lib.hid U0
 clear U0
 simp only[ak,ai,aT]at*
 go_enter Tryz.func54,Tryz.ntmps54
 go_wp2
 have G:=bK (x:=⟨1,false,0,0⟩) U9.out.au.head
 simp only at G
 obtain⟨g0,g1,g2,g3⟩:=G
 refine bodyPost_ret (v:= .agg (ai ⟨1,false,0,0⟩)) ?_ rfl ⟨rfl,U9.out.drop1.drop1⟩
 simp only[results,Tryz.results54]
 simp[go_sem,ai,g0,g1,g2,g3]
theorem QB(ph pc:Nat)(a b c v:Int)(ans:rX)(w:World)(h:Hp)(Q:Hp->Prop)(hi:In w ((ph,aC pc)::h))
  (hcall: ∀W,In W ((ph,aC pc)::h)->Calls Tryz.prog 48 #[.pointer (some ⟨ph,0,none⟩), .agg (ak ⟨1,a,b,c,v⟩)] W fun en w'=>en= .returned (.agg (ai ans))/\ ∃h',Q h'/\aj ((ph,aC pc)::h) ((ph,aC pc)::h') W w'):
  Calls Tryz.prog 19 #[.pointer (some ⟨ph,0,none⟩), .agg (ak ⟨1,a,b,c,v⟩)] w fun en w'=>en= .returned (.agg (ai ans))/\ ∃h',Q h'/\aj ((ph,aC pc)::h) ((ph,aC pc)::h') w w':=by
 have U0:=((aj.refl hi).alloc' (.cells (ak ⟨1,a,b,c,v⟩) 38 (0,0))).alloc' (.cells (ai aT) 35 (0,0))
 have hs1:(w.alloc (.cells (ak ⟨1,a,b,c,v⟩) 38 (0,0))).heap.size=w.heap.size+1:=by simp
 rw[hs1]at U0
 clear hs1
 have hc1:=hcall _ U0.au.tail.tail
 have U0:=Lib.hid U0
 clear hcall hi
 obtain⟨z0,z1,z2,z3⟩:=ans
 simp only[ak,ai,aT]at hc1
 go_enter Tryz.func19,Tryz.ntmps19
 simp only[ak]
 go_wp2_with(go_at_call 48;refine Calls.mono hc1 ?_;rintro en w1 ⟨rfl,h',hq,u1⟩;have U1:=Lib.hid (aj.dP (x:=[(w.heap.size+1, .cells (ai aT) 35 (0,0)),(w.heap.size, .cells (ak ⟨1,a,b,c,v⟩) 38 (0,0))]) U0.out u1);(obtain⟨d0,d1,d2,d3⟩:=bK (x:=aT) U1.out.au.head);(obtain⟨f0,f1,f2,f3⟩:=jW (x:=aT) U1.out.au.head);simp only[aT]at d0 d1 d2 d3;clear hc1)
 have UF:=aj.lV (x:=aT) U1.out ⟨z0,z1,z2,z3⟩
 have G:=bK UF.au.head
 simp only at G
 obtain⟨g0,g1,g2,g3⟩:=G
 clear d0 d1 d2 d3 f0 f1 f2 f3
 refine bodyPost_ret (v:= .agg (ai ⟨z0,z1,z2,z3⟩)) ?_ rfl ⟨rfl,h',hq,UF.drop1.drop1⟩
 simp only[results,Tryz.results19]
 simp[go_sem,ai,g0,g1,g2,g3]
theorem CO(ph pc:Nat)(a b c v:Int)(ans:rX)(w:World)(h:Hp)(Q:Hp->Prop)(hi:In w ((ph,aC pc)::h))
  (hcall: ∀W,In W ((ph,aC pc)::h)->Calls Tryz.prog 53 #[.pointer (some ⟨ph,0,none⟩), .agg (ak ⟨11,a,b,c,v⟩)] W fun en w'=>en= .returned (.agg (ai ans))/\ ∃h',Q h'/\aj ((ph,aC pc)::h) ((ph,aC pc)::h') W w'):
  Calls Tryz.prog 19 #[.pointer (some ⟨ph,0,none⟩), .agg (ak ⟨11,a,b,c,v⟩)] w fun en w'=>en= .returned (.agg (ai ans))/\ ∃h',Q h'/\aj ((ph,aC pc)::h) ((ph,aC pc)::h') w w':=by
 have U0:=((aj.refl hi).alloc' (.cells (ak ⟨11,a,b,c,v⟩) 38 (0,0))).alloc' (.cells (ai aT) 35 (0,0))
 have hs1:(w.alloc (.cells (ak ⟨11,a,b,c,v⟩) 38 (0,0))).heap.size=w.heap.size+1:=by simp
 rw[hs1]at U0
 clear hs1
 have hc1:=hcall _ U0.au.tail.tail
 have U0:=Lib.hid U0
 clear hcall hi
 obtain⟨z0,z1,z2,z3⟩:=ans
 simp only[ak,ai,aT]at hc1
 go_enter Tryz.func19,Tryz.ntmps19
 simp only[ak]
 go_wp2_with(go_at_call 53;refine Calls.mono hc1 ?_;rintro en w1 ⟨rfl,h',hq,u1⟩;have U1:=Lib.hid (aj.dP (x:=[(w.heap.size+1, .cells (ai aT) 35 (0,0)),(w.heap.size, .cells (ak ⟨11,a,b,c,v⟩) 38 (0,0))]) U0.out u1);(obtain⟨d0,d1,d2,d3⟩:=bK (x:=aT) U1.out.au.head);(obtain⟨f0,f1,f2,f3⟩:=jW (x:=aT) U1.out.au.head);simp only[aT]at d0 d1 d2 d3;clear hc1)
 have UF:=aj.lV (x:=aT) U1.out ⟨z0,z1,z2,z3⟩
 have G:=bK UF.au.head
 simp only at G
 obtain⟨g0,g1,g2,g3⟩:=G
 clear d0 d1 d2 d3 f0 f1 f2 f3
 refine bodyPost_ret (v:= .agg (ai ⟨z0,z1,z2,z3⟩)) ?_ rfl ⟨rfl,h',hq,UF.drop1.drop1⟩
 simp only[results,Tryz.results19]
 simp[go_sem,ai,g0,g1,g2,g3]
theorem y_(ph pc:Nat)(a b c v:Int)(ans:rX)(w:World)(h:Hp)(Q:Hp->Prop)(hi:In w ((ph,aC pc)::h))
  (hcall: ∀W,In W ((ph,aC pc)::h)->Calls Tryz.prog 54 #[.pointer (some ⟨ph,0,none⟩), .agg (ak ⟨12,a,b,c,v⟩)] W fun en w'=>en= .returned (.agg (ai ans))/\ ∃h',Q h'/\aj ((ph,aC pc)::h) ((ph,aC pc)::h') W w'):
  Calls Tryz.prog 19 #[.pointer (some ⟨ph,0,none⟩), .agg (ak ⟨12,a,b,c,v⟩)] w fun en w'=>en= .returned (.agg (ai ans))/\ ∃h',Q h'/\aj ((ph,aC pc)::h) ((ph,aC pc)::h') w w':=by
 have U0:=((aj.refl hi).alloc' (.cells (ak ⟨12,a,b,c,v⟩) 38 (0,0))).alloc' (.cells (ai aT) 35 (0,0))
 have hs1:(w.alloc (.cells (ak ⟨12,a,b,c,v⟩) 38 (0,0))).heap.size=w.heap.size+1:=by simp
 rw[hs1]at U0
 clear hs1
 have hc1:=hcall _ U0.au.tail.tail
 have U0:=Lib.hid U0
 clear hcall hi
 obtain⟨z0,z1,z2,z3⟩:=ans
 simp only[ak,ai,aT]at hc1
 go_enter Tryz.func19,Tryz.ntmps19
 simp only[ak]
 go_wp2_with(go_at_call 54;refine Calls.mono hc1 ?_;rintro en w1 ⟨rfl,h',hq,u1⟩;have U1:=Lib.hid (aj.dP (x:=[(w.heap.size+1, .cells (ai aT) 35 (0,0)),(w.heap.size, .cells (ak ⟨12,a,b,c,v⟩) 38 (0,0))]) U0.out u1);(obtain⟨d0,d1,d2,d3⟩:=bK (x:=aT) U1.out.au.head);(obtain⟨f0,f1,f2,f3⟩:=jW (x:=aT) U1.out.au.head);simp only[aT]at d0 d1 d2 d3;clear hc1)
 have UF:=aj.lV (x:=aT) U1.out ⟨z0,z1,z2,z3⟩
 have G:=bK UF.au.head
 simp only at G
 obtain⟨g0,g1,g2,g3⟩:=G
 clear d0 d1 d2 d3 f0 f1 f2 f3
 refine bodyPost_ret (v:= .agg (ai ⟨z0,z1,z2,z3⟩)) ?_ rfl ⟨rfl,h',hq,UF.drop1.drop1⟩
 simp only[results,Tryz.results19]
 simp[go_sem,ai,g0,g1,g2,g3]
theorem QC(ph pc:Nat)(k:Int)(a b c v:Int)(hk:k≠1/\k≠2/\k≠3/\k≠5/\k≠6/\k≠7/\k≠11/\k≠12)(ans:rX)(w:World)(h:Hp)(Q:Hp->Prop)(hi:In w ((ph,aC pc)::h))
  (hcall: ∀W,In W ((ph,aC pc)::h)->Calls Tryz.prog 55 #[.pointer (some ⟨ph,0,none⟩), .agg (ak ⟨k,a,b,c,v⟩)] W fun en w'=>en= .returned (.agg (ai ans))/\ ∃h',Q h'/\aj ((ph,aC pc)::h) ((ph,aC pc)::h') W w'):
  Calls Tryz.prog 19 #[.pointer (some ⟨ph,0,none⟩), .agg (ak ⟨k,a,b,c,v⟩)] w fun en w'=>en= .returned (.agg (ai ans))/\ ∃h',Q h'/\aj ((ph,aC pc)::h) ((ph,aC pc)::h') w w':=by
 have U0:=((aj.refl hi).alloc' (.cells (ak ⟨k,a,b,c,v⟩) 38 (0,0))).alloc' (.cells (ai aT) 35 (0,0))
 have hs1:(w.alloc (.cells (ak ⟨k,a,b,c,v⟩) 38 (0,0))).heap.size=w.heap.size+1:=by simp
 rw[hs1]at U0
 clear hs1
 have hc1:=hcall _ U0.au.tail.tail
 have U0:=Lib.hid U0
 clear hcall hi
 obtain⟨z0,z1,z2,z3⟩:=ans
 have n1:(k==1)=false:=by simp;omega
 have n2:(k==2)=false:=by simp;omega
 have n3:(k==3)=false:=by simp;omega
 have n5:(k==5)=false:=by simp;omega
 have n6:(k==6)=false:=by simp;omega
 have n7:(k==7)=false:=by simp;omega
 have n11:(k==11)=false:=by simp;omega
 have n12:(k==12)=false:=by simp;omega
 clear hk
 simp only[ak,ai,aT]at hc1
 go_enter Tryz.func19,Tryz.ntmps19
 simp only[ak]
 go_wp2_with(go_at_call 55;refine Calls.mono hc1 ?_;rintro en w1 ⟨rfl,h',hq,u1⟩;have U1:=Lib.hid (aj.dP (x:=[(w.heap.size+1, .cells (ai aT) 35 (0,0)),(w.heap.size, .cells (ak ⟨k,a,b,c,v⟩) 38 (0,0))]) U0.out u1);(obtain⟨d0,d1,d2,d3⟩:=bK (x:=aT) U1.out.au.head);(obtain⟨f0,f1,f2,f3⟩:=jW (x:=aT) U1.out.au.head);simp only[aT]at d0 d1 d2 d3;clear hc1)
 have UF:=aj.lV (x:=aT) U1.out ⟨z0,z1,z2,z3⟩
 have G:=bK UF.au.head
 simp only at G
 obtain⟨g0,g1,g2,g3⟩:=G
 clear d0 d1 d2 d3 f0 f1 f2 f3
 refine bodyPost_ret (v:= .agg (ai ⟨z0,z1,z2,z3⟩)) ?_ rfl ⟨rfl,h',hq,UF.drop1.drop1⟩
 simp only[results,Tryz.results19]
 simp[go_sem,ai,g0,g1,g2,g3]
end Go.Proofs.YtibemcgdmembeaaGreat
namespace Go.Proofs.YtibemcgdmembeaaGreat
open Go.RowKit
def af.jo(s:af)(b c:Int):af:=if s.eX b c=true then s.qc (b+c+2)else s
theorem Oq(ph pc:Nat)(L:aX){s:af}{cf:gX}{N:Int->dB}{hs:List Int}{m:Int}(T:dM s cf N hs m)(a b c v:Int)(hb:I64 b)(hcI:I64 c)(w:World)(h:Hp)(hi:In w ((ph,aC pc)::h))(hc:ah pc L s h):
  Calls Tryz.prog 48 #[.pointer (some ⟨ph,0,none⟩), .agg (ak ⟨1,a,b,c,v⟩)] w fun en w'=>en= .returned (.agg (ai ⟨(s.jo b c).gI a b c,false,0,0⟩))/\ ∃h',ah pc L ((s.jo b c).make a b c) h'/\aj ((ph,aC pc)::h) ((ph,aC pc)::h') w w':=by
 have hf:=T.fits
 have hl1:=hf.l1
 have hl2:=hf.l2
 have U0:=((aj.refl hi).alloc' (.cells (ak ⟨1,a,b,c,v⟩) 38 (0,0))).alloc' (.cells (ai aT) 35 (0,0))
 have hs1:(w.alloc (.cells (ak ⟨1,a,b,c,v⟩) 38 (0,0))).heap.size=w.heap.size+1:=by simp
 rw[hs1]at U0
 clear hs1
 have HB0:=Lib.hid (U0.drew'.perm (List.Perm.refl _) (List.Perm.refl _))
 have U0:=Lib.hid U0
 have HC:=Lib.hid hc
 have HX:=Lib.hid (fun S W h (hW:In W h) (hc:ah pc L S h) (e:S.C=cf)=>(hc.Xg hW e).c8)
 have Zi:=Lib.hid (fun words W (hW:In W ((ph,aC pc)::h))=>Qu ph pc L T words W h hW hc)
 have yD:=Lib.hid (fun(S:af) (TS:dM S cf N hs m) W h (hW:In W h) (hc:ah pc L S h)=>CB pc L TS.Vu a b c W h hW hc)
 have HT:=Lib.hid T
 have hcf:=T.cf
 have hsh:s.eX b c=decide (0<=b/\0<=c/\b<=cf.largest/\c<=cf.largest-b):=by unfold af.eX;rw[hcf]
 clear hc hi T hcf
 by_cases p1:0<=b
 ·by_cases p2:0<=c
  ·by_cases p3:b<=cf.largest
   ·have hwr:IntKind.i64.wrap (cf.largest-b)=cf.largest-b:=IntWalk.i64_in _ (by omega)
    by_cases p4:c<=cf.largest-b
    ·have hon:s.jo b c=s.qc (b+c+2):=by unfold af.jo;rw[hsh];simp[p1,p2,p3,p4]
     rw[hon]
     have hw2:IntKind.i64.wrap (b+c)=b+c:=IntWalk.i64_in _ (by omega)
     have hw3:IntKind.i64.wrap (b+c+2)=b+c+2:=IntWalk.i64_in _ (by omega)
     obtain⟨S2,hS2⟩: ∃S2,S2=s.qc (b+c+2):=⟨_,rfl⟩
     have T2:=Lib.hid (HT.out.qc (b+c+2))
     have HTx:=Lib.hid (Zi.out (b+c+2))
     rw[<-hS2]at T2 HTx⊢
     obtain⟨E,hE⟩: ∃E,E=S2.gI a b c:=⟨_,rfl⟩
     have yD:=Lib.hid (fun W h (hW:In W h) (hc:ah pc L S2 h)=>by have:=yD.out S2 T2.out W h hW hc;rw[<-hE]at this;exact this)
     simp only[ptr]at yD
     rw[<-hE]
     clear hE hon hsh hS2
     go_enter Tryz.func48,Tryz.ntmps48
     simp only[ak]
     go_wp2
     simp only[ak,ai,aT]at U0
     generalize hW:(w.alloc (.cells #[.int .i64 1, .int .i64 a, .int .i64 b, .int .i64 c, .int .u64 v] 38 (0,0))).alloc (.cells #[.int .i64 0, .bool false, .int .i64 0, .int .u64 0] 35 (0,0))=W at*
     generalize w.heap.size+1=A at*
     generalize w.heap.size=B at*
     clear hW HB0
     have U0:Hid (aj ((ph,aC pc)::h) ((A, .cells (ai aT) 35 (0,0))::(B, .cells (ak ⟨1,a,b,c,v⟩) 38 (0,0))::(ph,aC pc)::h) w W):=U0
     have X0:=aW (x:=aT) (y:=⟨1,a,b,c,v⟩) U0.out.drew'
     have x8:=HX.out _ _ _ U0.out.drew'.au.tail.tail.tail HC.out HT.out.cf
     have hS0:W.drew.cell? ⟨ph,0,none⟩=some (.pointer (some ⟨pc,0,none⟩))/\W.drew.cell? ⟨B,2,none⟩=some (.int .i64 b)/\W.drew.cell? ⟨B,3,none⟩=some (.int .i64 c)/\W.drew.cell? ⟨pc,8,none⟩=some (.int .i64 cf.largest):=⟨X0.1,X0.2.1.2.2.1,X0.2.1.2.2.2.1,x8⟩
     clear X0 x8
     refine wp_region_held_drew (S:=fun w'=>w'.cell? ⟨ph,0,none⟩=some (.pointer (some ⟨pc,0,none⟩))/\w'.cell? ⟨B,2,none⟩=some (.int .i64 b)/\w'.cell? ⟨B,3,none⟩=some (.int .i64 c)/\w'.cell? ⟨pc,8,none⟩=some (.int .i64 cf.largest)) (by kernel_rfl) (hS0) (fun hHeld=> ?_)
     refine tk 0 ?_
     refine tk 1 ?_
     refine tk 2 ?_
     refine tk 3 ?_
     refine tk 4 ?_
     refine tk 5 ?_
     refine tk 6 ?_
     refine tk 7 ?_
     refine tk 8 ?_
     refine tk 9 ?_
     refine tk 10 ?_
     refine tk 11 ?_
     refine tk 12 ?_
     refine tk 13 ?_
     refine tk 14 ?_
     refine tk 15 ?_
     refine tk 16 ?_
     refine tk 17 ?_
     refine tk 18 ?_
     refine tk 19 ?_
     refine tk 20 ?_
     refine tk 21 ?_
     refine tk 22 ?_
     refine tk 23 ?_
     refine tk 24 ?_
     refine tk 25 ?_
     refine tk 26 ?_
     refine tk 27 ?_
     refine tk 28 ?_
     refine tk 29 ?_
     refine tk 30 ?_
     refine tk 31 ?_
     refine tk 32 ?_
     refine tk 33 ?_
     refine tk 34 ?_
     refine tk 35 ?_
     refine tk 36 ?_
     try simp only[Act.put,List.setIfInBounds_toArray,List.set_cons_zero,List.set_cons_succ]
     refine wpAnyH_done (by kernel_rfl) ?_ _
     go_simp
     have X0:=aW (x:=aT) (y:=⟨1,a,b,c,v⟩) U0.out.drew'
     have y2:=X0.2.1.2.2.1
     have y3:=X0.2.1.2.2.2.1
     simp only at y2 y3
     clear X0 hS0
     go_wp2_with(go_at_call 98;refine Calls.mono (HTx.out _ U0.out.drew'.au.tail.tail) ?_;rintro en W3 ⟨rfl,h3,c3,u3⟩;have C3:=Lib.hid c3;have U3:=Lib.hid (aj.dP (x:=[(A, .cells (ai aT) 35 (0,0)),(B, .cells (ak ⟨1,a,b,c,v⟩) 38 (0,0))]) U0.out.drew' u3);clear c3 u3)
     clear U0 y2 y3
     have X3:=aW (x:=aT) (y:=⟨1,a,b,c,v⟩) U3.out.drew'
     have hS3:W3.drew.cell? ⟨ph,0,none⟩=some (.pointer (some ⟨pc,0,none⟩))/\W3.drew.cell? ⟨B,1,none⟩=some (.int .i64 a)/\W3.drew.cell? ⟨B,2,none⟩=some (.int .i64 b)/\W3.drew.cell? ⟨B,3,none⟩=some (.int .i64 c):=⟨X3.1,X3.2.1.2.1,X3.2.1.2.2.1,X3.2.1.2.2.2.1⟩
     clear X3
     refine wp_region_held_drew (S:=fun w'=>w'.cell? ⟨ph,0,none⟩=some (.pointer (some ⟨pc,0,none⟩))/\w'.cell? ⟨B,1,none⟩=some (.int .i64 a)/\w'.cell? ⟨B,2,none⟩=some (.int .i64 b)/\w'.cell? ⟨B,3,none⟩=some (.int .i64 c)) (by kernel_rfl) (hS3) (fun hHeld=> ?_)
     refine tk 0 ?_
     refine tk 1 ?_
     refine tk 2 ?_
     refine tk 3 ?_
     refine tk 4 ?_
     refine tk 5 ?_
     refine tk 6 ?_
     refine tk 7 ?_
     refine tk 8 ?_
     refine tk 9 ?_
     try simp only[Act.put,List.setIfInBounds_toArray,List.set_cons_zero,List.set_cons_succ]
     refine wpAnyH_ready (rs:=[10]) (by kernel_rfl) (by simp) ?_
     refine AllReadyH.cons (o:=_) rfl (fun K hK=> ?_) AllReadyH.nil
     go_simp
     go_wp2_with(go_at_call 41;refine Calls.mono (yD.out _ _ U3.out.drew'.au.tail.tail.tail C3.out) ?_;rintro en w5 ⟨rfl,h5,c5,u5⟩;have C5:=Lib.hid c5;have U5:=Lib.hid (aj.dP (x:=[(A, .cells (ai aT) 35 (0,0)),(B, .cells (ak ⟨1,a,b,c,v⟩) 38 (0,0)),(ph,aC pc)]) U3.out.drew' u5);have X5:=aW (x:=aT) (y:=⟨1,a,b,c,v⟩) U5.out;have X6:=aW (x:=⟨E,false,0,0⟩) (y:=⟨1,a,b,c,v⟩) (aj.lV (x:=aT) U5.out ⟨E,false,0,0⟩);(obtain⟨d0,d1,d2,d3⟩:=X5.2.2.1);(obtain⟨f0,f1,f2,f3⟩:=X5.2.2.2);simp only[aT]at d0 d1 d2 d3;clear c5 u5)
     try go_wp2_with fail
     refine hK.out _ _ (⟨X5.1,X5.2.1.2.1,X5.2.1.2.2.1,X5.2.1.2.2.2.1⟩) (fun hHeld=> ?_)
     clear hK K
     try simp only[Act.put,List.setIfInBounds_toArray,List.set_cons_zero,List.set_cons_succ]
     refine tk 11 ?_
     try simp only[Act.put,List.setIfInBounds_toArray,List.set_cons_zero,List.set_cons_succ]
     refine wpAnyH_ready (rs:=[12]) (by kernel_rfl) (by simp) ?_
     refine AllReadyH.cons (o:=_) rfl (fun K hK=> ?_) AllReadyH.nil
     go_simp
     skip
     try go_wp2_with fail
     refine hK.out _ _ (⟨X6.1,X6.2.1.2.1,X6.2.1.2.2.1,X6.2.1.2.2.2.1⟩) (fun hHeld=> ?_)
     clear hK K
     try simp only[Act.put,List.setIfInBounds_toArray,List.set_cons_zero,List.set_cons_succ]
     refine wpAnyH_done (by kernel_rfl) ?_ _
     go_simp
     go_wp2
     have UF:=aj.lV (x:=aT) U5.out ⟨E,false,0,0⟩
     have G:=bK UF.au.head
     simp only at G
     obtain⟨g0,g1,g2,g3⟩:=G
     clear d0 d1 d2 d3 f0 f1 f2 f3 X5 X6
     refine bodyPost_ret (v:= .agg (ai ⟨E,false,0,0⟩)) ?_ rfl ⟨rfl,h5,C5.out,UF.drop1.drop1⟩
     simp only[results,Tryz.results48]
     simp[go_sem,ai,g0,g1,g2,g3]
    ·have hno:s.jo b c=s:=by unfold af.jo;rw[hsh];simp;omega
     rw[hno]
     obtain⟨E,hE⟩: ∃E,E=s.gI a b c:=⟨_,rfl⟩
     have yD:=Lib.hid (fun W h (hW:In W h) (hc:ah pc L s h)=>by have:=yD.out s HT.out W h hW hc;rw[<-hE]at this;exact this)
     simp only[ptr]at yD
     rw[<-hE]
     clear hE hno hsh
     go_enter Tryz.func48,Tryz.ntmps48
     simp only[ak]
     go_wp2
     simp only[ak,ai,aT]at U0
     generalize hW:(w.alloc (.cells #[.int .i64 1, .int .i64 a, .int .i64 b, .int .i64 c, .int .u64 v] 38 (0,0))).alloc (.cells #[.int .i64 0, .bool false, .int .i64 0, .int .u64 0] 35 (0,0))=W at*
     generalize w.heap.size+1=A at*
     generalize w.heap.size=B at*
     clear hW HB0
     have U0:Hid (aj ((ph,aC pc)::h) ((A, .cells (ai aT) 35 (0,0))::(B, .cells (ak ⟨1,a,b,c,v⟩) 38 (0,0))::(ph,aC pc)::h) w W):=U0
     have X0:=aW (x:=aT) (y:=⟨1,a,b,c,v⟩) U0.out.drew'
     have x8:=HX.out _ _ _ U0.out.drew'.au.tail.tail.tail HC.out HT.out.cf
     have hS0:W.drew.cell? ⟨ph,0,none⟩=some (.pointer (some ⟨pc,0,none⟩))/\W.drew.cell? ⟨B,2,none⟩=some (.int .i64 b)/\W.drew.cell? ⟨B,3,none⟩=some (.int .i64 c)/\W.drew.cell? ⟨pc,8,none⟩=some (.int .i64 cf.largest):=⟨X0.1,X0.2.1.2.2.1,X0.2.1.2.2.2.1,x8⟩
     clear X0 x8
     refine wp_region_held_drew (S:=fun w'=>w'.cell? ⟨ph,0,none⟩=some (.pointer (some ⟨pc,0,none⟩))/\w'.cell? ⟨B,2,none⟩=some (.int .i64 b)/\w'.cell? ⟨B,3,none⟩=some (.int .i64 c)/\w'.cell? ⟨pc,8,none⟩=some (.int .i64 cf.largest)) (by kernel_rfl) (hS0) (fun hHeld=> ?_)
     refine tk 0 ?_
     refine tk 1 ?_
     refine tk 2 ?_
     refine tk 3 ?_
     refine tk 4 ?_
     refine tk 5 ?_
     refine tk 6 ?_
     refine tk 7 ?_
     refine tk 8 ?_
     refine tk 9 ?_
     refine tk 10 ?_
     refine tk 11 ?_
     refine tk 12 ?_
     refine tk 13 ?_
     refine tk 14 ?_
     refine tk 15 ?_
     refine tk 16 ?_
     refine tk 17 ?_
     refine tk 18 ?_
     refine tk 19 ?_
     refine tk 20 ?_
     refine tk 21 ?_
     refine tk 22 ?_
     refine tk 23 ?_
     refine tk 24 ?_
     refine tk 25 ?_
     refine tk 26 ?_
     refine tk 27 ?_
     refine tk 28 ?_
     refine tk 29 ?_
     refine tk 30 ?_
     refine tk 31 ?_
     refine tk 32 ?_
     refine tk 33 ?_
     refine tk 34 ?_
     refine tk 35 ?_
     refine tk 36 ?_
     try simp only[Act.put,List.setIfInBounds_toArray,List.set_cons_zero,List.set_cons_succ]
     refine wpAnyH_done (by kernel_rfl) ?_ _
     go_simp
     go_wp2
     have U3:=Lib.hid U0.out.drew'
     generalize W.drew=W3 at*
     clear U0
     have X3:=aW (x:=aT) (y:=⟨1,a,b,c,v⟩) U3.out.drew'
     have hS3:W3.drew.cell? ⟨ph,0,none⟩=some (.pointer (some ⟨pc,0,none⟩))/\W3.drew.cell? ⟨B,1,none⟩=some (.int .i64 a)/\W3.drew.cell? ⟨B,2,none⟩=some (.int .i64 b)/\W3.drew.cell? ⟨B,3,none⟩=some (.int .i64 c):=⟨X3.1,X3.2.1.2.1,X3.2.1.2.2.1,X3.2.1.2.2.2.1⟩
     clear X3
     refine wp_region_held_drew (S:=fun w'=>w'.cell? ⟨ph,0,none⟩=some (.pointer (some ⟨pc,0,none⟩))/\w'.cell? ⟨B,1,none⟩=some (.int .i64 a)/\w'.cell? ⟨B,2,none⟩=some (.int .i64 b)/\w'.cell? ⟨B,3,none⟩=some (.int .i64 c)) (by kernel_rfl) (hS3) (fun hHeld=> ?_)
     refine tk 0 ?_
     refine tk 1 ?_
     refine tk 2 ?_
     refine tk 3 ?_
     refine tk 4 ?_
     refine tk 5 ?_
     refine tk 6 ?_
     refine tk 7 ?_
     refine tk 8 ?_
     refine tk 9 ?_
     try simp only[Act.put,List.setIfInBounds_toArray,List.set_cons_zero,List.set_cons_succ]
     refine wpAnyH_ready (rs:=[10]) (by kernel_rfl) (by simp) ?_
     refine AllReadyH.cons (o:=_) rfl (fun K hK=> ?_) AllReadyH.nil
     go_simp
     go_wp2_with(go_at_call 41;refine Calls.mono (yD.out _ _ U3.out.drew'.au.tail.tail.tail HC.out) ?_;rintro en w5 ⟨rfl,h5,c5,u5⟩;have C5:=Lib.hid c5;have U5:=Lib.hid (aj.dP (x:=[(A, .cells (ai aT) 35 (0,0)),(B, .cells (ak ⟨1,a,b,c,v⟩) 38 (0,0)),(ph,aC pc)]) U3.out.drew' u5);have X5:=aW (x:=aT) (y:=⟨1,a,b,c,v⟩) U5.out;have X6:=aW (x:=⟨E,false,0,0⟩) (y:=⟨1,a,b,c,v⟩) (aj.lV (x:=aT) U5.out ⟨E,false,0,0⟩);(obtain⟨d0,d1,d2,d3⟩:=X5.2.2.1);(obtain⟨f0,f1,f2,f3⟩:=X5.2.2.2);simp only[aT]at d0 d1 d2 d3;clear c5 u5)
     try go_wp2_with fail
     refine hK.out _ _ (⟨X5.1,X5.2.1.2.1,X5.2.1.2.2.1,X5.2.1.2.2.2.1⟩) (fun hHeld=> ?_)
     clear hK K
     try simp only[Act.put,List.setIfInBounds_toArray,List.set_cons_zero,List.set_cons_succ]
     refine tk 11 ?_
     try simp only[Act.put,List.setIfInBounds_toArray,List.set_cons_zero,List.set_cons_succ]
     refine wpAnyH_ready (rs:=[12]) (by kernel_rfl) (by simp) ?_
     refine AllReadyH.cons (o:=_) rfl (fun K hK=> ?_) AllReadyH.nil
     go_simp
     skip
     try go_wp2_with fail
     refine hK.out _ _ (⟨X6.1,X6.2.1.2.1,X6.2.1.2.2.1,X6.2.1.2.2.2.1⟩) (fun hHeld=> ?_)
     clear hK K
     try simp only[Act.put,List.setIfInBounds_toArray,List.set_cons_zero,List.set_cons_succ]
     refine wpAnyH_done (by kernel_rfl) ?_ _
     go_simp
     go_wp2
     have UF:=aj.lV (x:=aT) U5.out ⟨E,false,0,0⟩
     have G:=bK UF.au.head
     simp only at G
     obtain⟨g0,g1,g2,g3⟩:=G
     clear d0 d1 d2 d3 f0 f1 f2 f3 X5 X6
     refine bodyPost_ret (v:= .agg (ai ⟨E,false,0,0⟩)) ?_ rfl ⟨rfl,h5,C5.out,UF.drop1.drop1⟩
     simp only[results,Tryz.results48]
     simp[go_sem,ai,g0,g1,g2,g3]
   ·have hno:s.jo b c=s:=by unfold af.jo;rw[hsh];simp;omega
    rw[hno]
    obtain⟨E,hE⟩: ∃E,E=s.gI a b c:=⟨_,rfl⟩
    have yD:=Lib.hid (fun W h (hW:In W h) (hc:ah pc L s h)=>by have:=yD.out s HT.out W h hW hc;rw[<-hE]at this;exact this)
    simp only[ptr]at yD
    rw[<-hE]
    clear hE hno hsh
    have q3:decide (b<=cf.largest)=false:=decide_eq_false p3
    go_enter Tryz.func48,Tryz.ntmps48
    simp only[ak]
    go_wp2
    simp only[ak,ai,aT]at U0
    generalize hW:(w.alloc (.cells #[.int .i64 1, .int .i64 a, .int .i64 b, .int .i64 c, .int .u64 v] 38 (0,0))).alloc (.cells #[.int .i64 0, .bool false, .int .i64 0, .int .u64 0] 35 (0,0))=W at*
    generalize w.heap.size+1=A at*
    generalize w.heap.size=B at*
    clear hW HB0
    have U0:Hid (aj ((ph,aC pc)::h) ((A, .cells (ai aT) 35 (0,0))::(B, .cells (ak ⟨1,a,b,c,v⟩) 38 (0,0))::(ph,aC pc)::h) w W):=U0
    have X0:=aW (x:=aT) (y:=⟨1,a,b,c,v⟩) U0.out.drew'
    have x8:=HX.out _ _ _ U0.out.drew'.au.tail.tail.tail HC.out HT.out.cf
    have hS0:W.drew.cell? ⟨ph,0,none⟩=some (.pointer (some ⟨pc,0,none⟩))/\W.drew.cell? ⟨B,2,none⟩=some (.int .i64 b)/\W.drew.cell? ⟨B,3,none⟩=some (.int .i64 c)/\W.drew.cell? ⟨pc,8,none⟩=some (.int .i64 cf.largest):=⟨X0.1,X0.2.1.2.2.1,X0.2.1.2.2.2.1,x8⟩
    clear X0 x8
    refine wp_region_held_drew (S:=fun w'=>w'.cell? ⟨ph,0,none⟩=some (.pointer (some ⟨pc,0,none⟩))/\w'.cell? ⟨B,2,none⟩=some (.int .i64 b)/\w'.cell? ⟨B,3,none⟩=some (.int .i64 c)/\w'.cell? ⟨pc,8,none⟩=some (.int .i64 cf.largest)) (by kernel_rfl) (hS0) (fun hHeld=> ?_)
    refine tk 0 ?_
    refine tk 1 ?_
    refine tk 2 ?_
    refine tk 3 ?_
    refine tk 4 ?_
    refine tk 5 ?_
    refine tk 6 ?_
    refine tk 7 ?_
    refine tk 8 ?_
    refine tk 9 ?_
    refine tk 10 ?_
    refine tk 11 ?_
    refine tk 12 ?_
    refine tk 13 ?_
    refine tk 14 ?_
    refine tk 15 ?_
    refine tk 16 ?_
    refine tk 17 ?_
    refine tk 18 ?_
    refine tk 19 ?_
    refine tk 20 ?_
    refine tk 21 ?_
    try simp only[Act.put,List.setIfInBounds_toArray,List.set_cons_zero,List.set_cons_succ]
    refine wpAnyH_take (i:=22) (v:=undef) rfl (by kernel_rfl) (by kernel_rfl) (by kernel_rfl) (fun _ _ _ h=>h) (Or.inr ⟨by kernel_rfl,rfl⟩) (by assumption) ?_
    try simp only[Act.put,List.setIfInBounds_toArray,List.set_cons_zero,List.set_cons_succ]
    refine wpAnyH_take (i:=23) (v:=undef) rfl (by kernel_rfl) (by kernel_rfl) (by kernel_rfl) (fun _ _ _ h=>h) (Or.inr ⟨by kernel_rfl,rfl⟩) (by assumption) ?_
    try simp only[Act.put,List.setIfInBounds_toArray,List.set_cons_zero,List.set_cons_succ]
    refine wpAnyH_take (i:=24) (v:=undef) rfl (by kernel_rfl) (by kernel_rfl) (by kernel_rfl) (fun _ _ _ h=>h) (Or.inr ⟨by kernel_rfl,rfl⟩) (by assumption) ?_
    try simp only[Act.put,List.setIfInBounds_toArray,List.set_cons_zero,List.set_cons_succ]
    refine wpAnyH_take (i:=25) (v:=undef) rfl (by kernel_rfl) (by kernel_rfl) (by kernel_rfl) (fun _ _ _ h=>h) (Or.inr ⟨by kernel_rfl,rfl⟩) (by assumption) ?_
    try simp only[Act.put,List.setIfInBounds_toArray,List.set_cons_zero,List.set_cons_succ]
    refine wpAnyH_take (i:=26) (v:=undef) rfl (by kernel_rfl) (by kernel_rfl) (by kernel_rfl) (fun _ _ _ h=>h) (Or.inr ⟨by kernel_rfl,rfl⟩) (by assumption) ?_
    try simp only[Act.put,List.setIfInBounds_toArray,List.set_cons_zero,List.set_cons_succ]
    refine wpAnyH_take (i:=27) (v:=undef) rfl (by kernel_rfl) (by kernel_rfl) (by kernel_rfl) (fun _ _ _ h=>h) (Or.inr ⟨by kernel_rfl,rfl⟩) (by assumption) ?_
    try simp only[Act.put,List.setIfInBounds_toArray,List.set_cons_zero,List.set_cons_succ]
    refine wpAnyH_take (i:=28) (v:=undef) rfl (by kernel_rfl) (by kernel_rfl) (by kernel_rfl) (fun _ _ _ h=>h) (Or.inr ⟨by kernel_rfl,rfl⟩) (by assumption) ?_
    try simp only[Act.put,List.setIfInBounds_toArray,List.set_cons_zero,List.set_cons_succ]
    refine wpAnyH_take (i:=29) (v:=undef) rfl (by kernel_rfl) (by kernel_rfl) (by kernel_rfl) (fun _ _ _ h=>h) (Or.inr ⟨by kernel_rfl,rfl⟩) (by assumption) ?_
    try simp only[Act.put,List.setIfInBounds_toArray,List.set_cons_zero,List.set_cons_succ]
    refine wpAnyH_take (i:=30) (v:=undef) rfl (by kernel_rfl) (by kernel_rfl) (by kernel_rfl) (fun _ _ _ h=>h) (Or.inr ⟨by kernel_rfl,rfl⟩) (by assumption) ?_
    try simp only[Act.put,List.setIfInBounds_toArray,List.set_cons_zero,List.set_cons_succ]
    refine wpAnyH_take (i:=31) (v:=undef) rfl (by kernel_rfl) (by kernel_rfl) (by kernel_rfl) (fun _ _ _ h=>h) (Or.inr ⟨by kernel_rfl,rfl⟩) (by assumption) ?_
    try simp only[Act.put,List.setIfInBounds_toArray,List.set_cons_zero,List.set_cons_succ]
    refine wpAnyH_take (i:=32) (v:=undef) rfl (by kernel_rfl) (by kernel_rfl) (by kernel_rfl) (fun _ _ _ h=>h) (Or.inr ⟨by kernel_rfl,rfl⟩) (by assumption) ?_
    try simp only[Act.put,List.setIfInBounds_toArray,List.set_cons_zero,List.set_cons_succ]
    refine wpAnyH_take (i:=33) (v:=undef) rfl (by kernel_rfl) (by kernel_rfl) (by kernel_rfl) (fun _ _ _ h=>h) (Or.inr ⟨by kernel_rfl,rfl⟩) (by assumption) ?_
    try simp only[Act.put,List.setIfInBounds_toArray,List.set_cons_zero,List.set_cons_succ]
    refine wpAnyH_take (i:=34) (v:=undef) rfl (by kernel_rfl) (by kernel_rfl) (by kernel_rfl) (fun _ _ _ h=>h) (Or.inr ⟨by kernel_rfl,rfl⟩) (by assumption) ?_
    try simp only[Act.put,List.setIfInBounds_toArray,List.set_cons_zero,List.set_cons_succ]
    refine wpAnyH_take (i:=35) (v:=undef) rfl (by kernel_rfl) (by kernel_rfl) (by kernel_rfl) (fun _ _ _ h=>h) (Or.inr ⟨by kernel_rfl,rfl⟩) (by assumption) ?_
    try simp only[Act.put,List.setIfInBounds_toArray,List.set_cons_zero,List.set_cons_succ]
    refine tk 36 ?_
    try simp only[Act.put,List.setIfInBounds_toArray,List.set_cons_zero,List.set_cons_succ]
    refine wpAnyH_done (by kernel_rfl) ?_ _
    go_simp
    go_wp2
    have U3:=Lib.hid U0.out.drew'
    generalize W.drew=W3 at*
    clear U0
    have X3:=aW (x:=aT) (y:=⟨1,a,b,c,v⟩) U3.out.drew'
    have hS3:W3.drew.cell? ⟨ph,0,none⟩=some (.pointer (some ⟨pc,0,none⟩))/\W3.drew.cell? ⟨B,1,none⟩=some (.int .i64 a)/\W3.drew.cell? ⟨B,2,none⟩=some (.int .i64 b)/\W3.drew.cell? ⟨B,3,none⟩=some (.int .i64 c):=⟨X3.1,X3.2.1.2.1,X3.2.1.2.2.1,X3.2.1.2.2.2.1⟩
    clear X3
    refine wp_region_held_drew (S:=fun w'=>w'.cell? ⟨ph,0,none⟩=some (.pointer (some ⟨pc,0,none⟩))/\w'.cell? ⟨B,1,none⟩=some (.int .i64 a)/\w'.cell? ⟨B,2,none⟩=some (.int .i64 b)/\w'.cell? ⟨B,3,none⟩=some (.int .i64 c)) (by kernel_rfl) (hS3) (fun hHeld=> ?_)
    refine tk 0 ?_
    refine tk 1 ?_
    refine tk 2 ?_
    refine tk 3 ?_
    refine tk 4 ?_
    refine tk 5 ?_
    refine tk 6 ?_
    refine tk 7 ?_
    refine tk 8 ?_
    refine tk 9 ?_
    try simp only[Act.put,List.setIfInBounds_toArray,List.set_cons_zero,List.set_cons_succ]
    refine wpAnyH_ready (rs:=[10]) (by kernel_rfl) (by simp) ?_
    refine AllReadyH.cons (o:=_) rfl (fun K hK=> ?_) AllReadyH.nil
    go_simp
    go_wp2_with(go_at_call 41;refine Calls.mono (yD.out _ _ U3.out.drew'.au.tail.tail.tail HC.out) ?_;rintro en w5 ⟨rfl,h5,c5,u5⟩;have C5:=Lib.hid c5;have U5:=Lib.hid (aj.dP (x:=[(A, .cells (ai aT) 35 (0,0)),(B, .cells (ak ⟨1,a,b,c,v⟩) 38 (0,0)),(ph,aC pc)]) U3.out.drew' u5);have X5:=aW (x:=aT) (y:=⟨1,a,b,c,v⟩) U5.out;have X6:=aW (x:=⟨E,false,0,0⟩) (y:=⟨1,a,b,c,v⟩) (aj.lV (x:=aT) U5.out ⟨E,false,0,0⟩);(obtain⟨d0,d1,d2,d3⟩:=X5.2.2.1);(obtain⟨f0,f1,f2,f3⟩:=X5.2.2.2);simp only[aT]at d0 d1 d2 d3;clear c5 u5)
    try go_wp2_with fail
    refine hK.out _ _ (⟨X5.1,X5.2.1.2.1,X5.2.1.2.2.1,X5.2.1.2.2.2.1⟩) (fun hHeld=> ?_)
    clear hK K
    try simp only[Act.put,List.setIfInBounds_toArray,List.set_cons_zero,List.set_cons_succ]
    refine tk 11 ?_
    try simp only[Act.put,List.setIfInBounds_toArray,List.set_cons_zero,List.set_cons_succ]
    refine wpAnyH_ready (rs:=[12]) (by kernel_rfl) (by simp) ?_
    refine AllReadyH.cons (o:=_) rfl (fun K hK=> ?_) AllReadyH.nil
    go_simp
    skip
    try go_wp2_with fail
    refine hK.out _ _ (⟨X6.1,X6.2.1.2.1,X6.2.1.2.2.1,X6.2.1.2.2.2.1⟩) (fun hHeld=> ?_)
    clear hK K
    try simp only[Act.put,List.setIfInBounds_toArray,List.set_cons_zero,List.set_cons_succ]
    refine wpAnyH_done (by kernel_rfl) ?_ _
    go_simp
    go_wp2
    have UF:=aj.lV (x:=aT) U5.out ⟨E,false,0,0⟩
    have G:=bK UF.au.head
    simp only at G
    obtain⟨g0,g1,g2,g3⟩:=G
    clear d0 d1 d2 d3 f0 f1 f2 f3 X5 X6
    refine bodyPost_ret (v:= .agg (ai ⟨E,false,0,0⟩)) ?_ rfl ⟨rfl,h5,C5.out,UF.drop1.drop1⟩
    simp only[results,Tryz.results48]
    simp[go_sem,ai,g0,g1,g2,g3]
  ·have hno:s.jo b c=s:=by unfold af.jo;rw[hsh];simp;omega
   rw[hno]
   obtain⟨E,hE⟩: ∃E,E=s.gI a b c:=⟨_,rfl⟩
   have yD:=Lib.hid (fun W h (hW:In W h) (hc:ah pc L s h)=>by have:=yD.out s HT.out W h hW hc;rw[<-hE]at this;exact this)
   simp only[ptr]at yD
   rw[<-hE]
   clear hE hno hsh
   have q2:decide (c≥0)=false:=decide_eq_false (by omega)
   have q2':decide (0<=c)=false:=decide_eq_false (by omega)
   go_enter Tryz.func48,Tryz.ntmps48
   simp only[ak]
   go_wp2
   simp only[ak,ai,aT]at U0
   generalize hW:(w.alloc (.cells #[.int .i64 1, .int .i64 a, .int .i64 b, .int .i64 c, .int .u64 v] 38 (0,0))).alloc (.cells #[.int .i64 0, .bool false, .int .i64 0, .int .u64 0] 35 (0,0))=W at*
   generalize w.heap.size+1=A at*
   generalize w.heap.size=B at*
   clear hW HB0
   have U0:Hid (aj ((ph,aC pc)::h) ((A, .cells (ai aT) 35 (0,0))::(B, .cells (ak ⟨1,a,b,c,v⟩) 38 (0,0))::(ph,aC pc)::h) w W):=U0
   have X0:=aW (x:=aT) (y:=⟨1,a,b,c,v⟩) U0.out.drew'
   have x8:=HX.out _ _ _ U0.out.drew'.au.tail.tail.tail HC.out HT.out.cf
   have hS0:W.drew.cell? ⟨ph,0,none⟩=some (.pointer (some ⟨pc,0,none⟩))/\W.drew.cell? ⟨B,2,none⟩=some (.int .i64 b)/\W.drew.cell? ⟨B,3,none⟩=some (.int .i64 c)/\W.drew.cell? ⟨pc,8,none⟩=some (.int .i64 cf.largest):=⟨X0.1,X0.2.1.2.2.1,X0.2.1.2.2.2.1,x8⟩
   clear X0 x8
   refine wp_region_held_drew (S:=fun w'=>w'.cell? ⟨ph,0,none⟩=some (.pointer (some ⟨pc,0,none⟩))/\w'.cell? ⟨B,2,none⟩=some (.int .i64 b)/\w'.cell? ⟨B,3,none⟩=some (.int .i64 c)/\w'.cell? ⟨pc,8,none⟩=some (.int .i64 cf.largest)) (by kernel_rfl) (hS0) (fun hHeld=> ?_)
   refine tk 0 ?_
   refine tk 1 ?_
   refine tk 2 ?_
   refine tk 3 ?_
   refine tk 4 ?_
   refine tk 5 ?_
   refine tk 6 ?_
   refine tk 7 ?_
   refine tk 8 ?_
   try simp only[Act.put,List.setIfInBounds_toArray,List.set_cons_zero,List.set_cons_succ]
   refine wpAnyH_take (i:=9) (v:=undef) rfl (by kernel_rfl) (by kernel_rfl) (by kernel_rfl) (fun _ _ _ h=>h) (Or.inr ⟨by kernel_rfl,rfl⟩) (by assumption) ?_
   try simp only[Act.put,List.setIfInBounds_toArray,List.set_cons_zero,List.set_cons_succ]
   refine wpAnyH_take (i:=10) (v:=undef) rfl (by kernel_rfl) (by kernel_rfl) (by kernel_rfl) (fun _ _ _ h=>h) (Or.inr ⟨by kernel_rfl,rfl⟩) (by assumption) ?_
   try simp only[Act.put,List.setIfInBounds_toArray,List.set_cons_zero,List.set_cons_succ]
   refine wpAnyH_take (i:=11) (v:=undef) rfl (by kernel_rfl) (by kernel_rfl) (by kernel_rfl) (fun _ _ _ h=>h) (Or.inr ⟨by kernel_rfl,rfl⟩) (by assumption) ?_
   try simp only[Act.put,List.setIfInBounds_toArray,List.set_cons_zero,List.set_cons_succ]
   refine wpAnyH_take (i:=12) (v:=undef) rfl (by kernel_rfl) (by kernel_rfl) (by kernel_rfl) (fun _ _ _ h=>h) (Or.inr ⟨by kernel_rfl,rfl⟩) (by assumption) ?_
   try simp only[Act.put,List.setIfInBounds_toArray,List.set_cons_zero,List.set_cons_succ]
   refine wpAnyH_take (i:=13) (v:=undef) rfl (by kernel_rfl) (by kernel_rfl) (by kernel_rfl) (fun _ _ _ h=>h) (Or.inr ⟨by kernel_rfl,rfl⟩) (by assumption) ?_
   try simp only[Act.put,List.setIfInBounds_toArray,List.set_cons_zero,List.set_cons_succ]
   refine wpAnyH_take (i:=14) (v:=undef) rfl (by kernel_rfl) (by kernel_rfl) (by kernel_rfl) (fun _ _ _ h=>h) (Or.inr ⟨by kernel_rfl,rfl⟩) (by assumption) ?_
   try simp only[Act.put,List.setIfInBounds_toArray,List.set_cons_zero,List.set_cons_succ]
   refine wpAnyH_take (i:=15) (v:=undef) rfl (by kernel_rfl) (by kernel_rfl) (by kernel_rfl) (fun _ _ _ h=>h) (Or.inr ⟨by kernel_rfl,rfl⟩) (by assumption) ?_
   try simp only[Act.put,List.setIfInBounds_toArray,List.set_cons_zero,List.set_cons_succ]
   refine wpAnyH_take (i:=16) (v:=undef) rfl (by kernel_rfl) (by kernel_rfl) (by kernel_rfl) (fun _ _ _ h=>h) (Or.inr ⟨by kernel_rfl,rfl⟩) (by assumption) ?_
   try simp only[Act.put,List.setIfInBounds_toArray,List.set_cons_zero,List.set_cons_succ]
   refine wpAnyH_take (i:=17) (v:=undef) rfl (by kernel_rfl) (by kernel_rfl) (by kernel_rfl) (fun _ _ _ h=>h) (Or.inr ⟨by kernel_rfl,rfl⟩) (by assumption) ?_
   try simp only[Act.put,List.setIfInBounds_toArray,List.set_cons_zero,List.set_cons_succ]
   refine wpAnyH_take (i:=18) (v:=undef) rfl (by kernel_rfl) (by kernel_rfl) (by kernel_rfl) (fun _ _ _ h=>h) (Or.inr ⟨by kernel_rfl,rfl⟩) (by assumption) ?_
   try simp only[Act.put,List.setIfInBounds_toArray,List.set_cons_zero,List.set_cons_succ]
   refine wpAnyH_take (i:=19) (v:=undef) rfl (by kernel_rfl) (by kernel_rfl) (by kernel_rfl) (fun _ _ _ h=>h) (Or.inr ⟨by kernel_rfl,rfl⟩) (by assumption) ?_
   try simp only[Act.put,List.setIfInBounds_toArray,List.set_cons_zero,List.set_cons_succ]
   refine tk 20 ?_
   refine tk 21 ?_
   try simp only[Act.put,List.setIfInBounds_toArray,List.set_cons_zero,List.set_cons_succ]
   refine wpAnyH_take (i:=22) (v:=undef) rfl (by kernel_rfl) (by kernel_rfl) (by kernel_rfl) (fun _ _ _ h=>h) (Or.inr ⟨by kernel_rfl,rfl⟩) (by assumption) ?_
   try simp only[Act.put,List.setIfInBounds_toArray,List.set_cons_zero,List.set_cons_succ]
   refine wpAnyH_take (i:=23) (v:=undef) rfl (by kernel_rfl) (by kernel_rfl) (by kernel_rfl) (fun _ _ _ h=>h) (Or.inr ⟨by kernel_rfl,rfl⟩) (by assumption) ?_
   try simp only[Act.put,List.setIfInBounds_toArray,List.set_cons_zero,List.set_cons_succ]
   refine wpAnyH_take (i:=24) (v:=undef) rfl (by kernel_rfl) (by kernel_rfl) (by kernel_rfl) (fun _ _ _ h=>h) (Or.inr ⟨by kernel_rfl,rfl⟩) (by assumption) ?_
   try simp only[Act.put,List.setIfInBounds_toArray,List.set_cons_zero,List.set_cons_succ]
   refine wpAnyH_take (i:=25) (v:=undef) rfl (by kernel_rfl) (by kernel_rfl) (by kernel_rfl) (fun _ _ _ h=>h) (Or.inr ⟨by kernel_rfl,rfl⟩) (by assumption) ?_
   try simp only[Act.put,List.setIfInBounds_toArray,List.set_cons_zero,List.set_cons_succ]
   refine wpAnyH_take (i:=26) (v:=undef) rfl (by kernel_rfl) (by kernel_rfl) (by kernel_rfl) (fun _ _ _ h=>h) (Or.inr ⟨by kernel_rfl,rfl⟩) (by assumption) ?_
   try simp only[Act.put,List.setIfInBounds_toArray,List.set_cons_zero,List.set_cons_succ]
   refine wpAnyH_take (i:=27) (v:=undef) rfl (by kernel_rfl) (by kernel_rfl) (by kernel_rfl) (fun _ _ _ h=>h) (Or.inr ⟨by kernel_rfl,rfl⟩) (by assumption) ?_
   try simp only[Act.put,List.setIfInBounds_toArray,List.set_cons_zero,List.set_cons_succ]
   refine wpAnyH_take (i:=28) (v:=undef) rfl (by kernel_rfl) (by kernel_rfl) (by kernel_rfl) (fun _ _ _ h=>h) (Or.inr ⟨by kernel_rfl,rfl⟩) (by assumption) ?_
   try simp only[Act.put,List.setIfInBounds_toArray,List.set_cons_zero,List.set_cons_succ]
   refine wpAnyH_take (i:=29) (v:=undef) rfl (by kernel_rfl) (by kernel_rfl) (by kernel_rfl) (fun _ _ _ h=>h) (Or.inr ⟨by kernel_rfl,rfl⟩) (by assumption) ?_
   try simp only[Act.put,List.setIfInBounds_toArray,List.set_cons_zero,List.set_cons_succ]
   refine wpAnyH_take (i:=30) (v:=undef) rfl (by kernel_rfl) (by kernel_rfl) (by kernel_rfl) (fun _ _ _ h=>h) (Or.inr ⟨by kernel_rfl,rfl⟩) (by assumption) ?_
   try simp only[Act.put,List.setIfInBounds_toArray,List.set_cons_zero,List.set_cons_succ]
   refine wpAnyH_take (i:=31) (v:=undef) rfl (by kernel_rfl) (by kernel_rfl) (by kernel_rfl) (fun _ _ _ h=>h) (Or.inr ⟨by kernel_rfl,rfl⟩) (by assumption) ?_
   try simp only[Act.put,List.setIfInBounds_toArray,List.set_cons_zero,List.set_cons_succ]
   refine wpAnyH_take (i:=32) (v:=undef) rfl (by kernel_rfl) (by kernel_rfl) (by kernel_rfl) (fun _ _ _ h=>h) (Or.inr ⟨by kernel_rfl,rfl⟩) (by assumption) ?_
   try simp only[Act.put,List.setIfInBounds_toArray,List.set_cons_zero,List.set_cons_succ]
   refine wpAnyH_take (i:=33) (v:=undef) rfl (by kernel_rfl) (by kernel_rfl) (by kernel_rfl) (fun _ _ _ h=>h) (Or.inr ⟨by kernel_rfl,rfl⟩) (by assumption) ?_
   try simp only[Act.put,List.setIfInBounds_toArray,List.set_cons_zero,List.set_cons_succ]
   refine wpAnyH_take (i:=34) (v:=undef) rfl (by kernel_rfl) (by kernel_rfl) (by kernel_rfl) (fun _ _ _ h=>h) (Or.inr ⟨by kernel_rfl,rfl⟩) (by assumption) ?_
   try simp only[Act.put,List.setIfInBounds_toArray,List.set_cons_zero,List.set_cons_succ]
   refine wpAnyH_take (i:=35) (v:=undef) rfl (by kernel_rfl) (by kernel_rfl) (by kernel_rfl) (fun _ _ _ h=>h) (Or.inr ⟨by kernel_rfl,rfl⟩) (by assumption) ?_
   try simp only[Act.put,List.setIfInBounds_toArray,List.set_cons_zero,List.set_cons_succ]
   refine tk 36 ?_
   try simp only[Act.put,List.setIfInBounds_toArray,List.set_cons_zero,List.set_cons_succ]
   refine wpAnyH_done (by kernel_rfl) ?_ _
   go_simp
   go_wp2
   have U3:=Lib.hid U0.out.drew'
   generalize W.drew=W3 at*
   clear U0
   have X3:=aW (x:=aT) (y:=⟨1,a,b,c,v⟩) U3.out.drew'
   have hS3:W3.drew.cell? ⟨ph,0,none⟩=some (.pointer (some ⟨pc,0,none⟩))/\W3.drew.cell? ⟨B,1,none⟩=some (.int .i64 a)/\W3.drew.cell? ⟨B,2,none⟩=some (.int .i64 b)/\W3.drew.cell? ⟨B,3,none⟩=some (.int .i64 c):=⟨X3.1,X3.2.1.2.1,X3.2.1.2.2.1,X3.2.1.2.2.2.1⟩
   clear X3
   refine wp_region_held_drew (S:=fun w'=>w'.cell? ⟨ph,0,none⟩=some (.pointer (some ⟨pc,0,none⟩))/\w'.cell? ⟨B,1,none⟩=some (.int .i64 a)/\w'.cell? ⟨B,2,none⟩=some (.int .i64 b)/\w'.cell? ⟨B,3,none⟩=some (.int .i64 c)) (by kernel_rfl) (hS3) (fun hHeld=> ?_)
   refine tk 0 ?_
   refine tk 1 ?_
   refine tk 2 ?_
   refine tk 3 ?_
   refine tk 4 ?_
   refine tk 5 ?_
   refine tk 6 ?_
   refine tk 7 ?_
   refine tk 8 ?_
   refine tk 9 ?_
   try simp only[Act.put,List.setIfInBounds_toArray,List.set_cons_zero,List.set_cons_succ]
   refine wpAnyH_ready (rs:=[10]) (by kernel_rfl) (by simp) ?_
   refine AllReadyH.cons (o:=_) rfl (fun K hK=> ?_) AllReadyH.nil
   go_simp
   go_wp2_with(go_at_call 41;refine Calls.mono (yD.out _ _ U3.out.drew'.au.tail.tail.tail HC.out) ?_;rintro en w5 ⟨rfl,h5,c5,u5⟩;have C5:=Lib.hid c5;have U5:=Lib.hid (aj.dP (x:=[(A, .cells (ai aT) 35 (0,0)),(B, .cells (ak ⟨1,a,b,c,v⟩) 38 (0,0)),(ph,aC pc)]) U3.out.drew' u5);have X5:=aW (x:=aT) (y:=⟨1,a,b,c,v⟩) U5.out;have X6:=aW (x:=⟨E,false,0,0⟩) (y:=⟨1,a,b,c,v⟩) (aj.lV (x:=aT) U5.out ⟨E,false,0,0⟩);(obtain⟨d0,d1,d2,d3⟩:=X5.2.2.1);(obtain⟨f0,f1,f2,f3⟩:=X5.2.2.2);simp only[aT]at d0 d1 d2 d3;clear c5 u5)
   try go_wp2_with fail
   refine hK.out _ _ (⟨X5.1,X5.2.1.2.1,X5.2.1.2.2.1,X5.2.1.2.2.2.1⟩) (fun hHeld=> ?_)
   clear hK K
   try simp only[Act.put,List.setIfInBounds_toArray,List.set_cons_zero,List.set_cons_succ]
   refine tk 11 ?_
   try simp only[Act.put,List.setIfInBounds_toArray,List.set_cons_zero,List.set_cons_succ]
   refine wpAnyH_ready (rs:=[12]) (by kernel_rfl) (by simp) ?_
   refine AllReadyH.cons (o:=_) rfl (fun K hK=> ?_) AllReadyH.nil
   go_simp
   skip
   try go_wp2_with fail
   refine hK.out _ _ (⟨X6.1,X6.2.1.2.1,X6.2.1.2.2.1,X6.2.1.2.2.2.1⟩) (fun hHeld=> ?_)
   clear hK K
   try simp only[Act.put,List.setIfInBounds_toArray,List.set_cons_zero,List.set_cons_succ]
   refine wpAnyH_done (by kernel_rfl) ?_ _
   go_simp
   go_wp2
   have UF:=aj.lV (x:=aT) U5.out ⟨E,false,0,0⟩
   have G:=bK UF.au.head
   simp only at G
   obtain⟨g0,g1,g2,g3⟩:=G
   clear d0 d1 d2 d3 f0 f1 f2 f3 X5 X6
   refine bodyPost_ret (v:= .agg (ai ⟨E,false,0,0⟩)) ?_ rfl ⟨rfl,h5,C5.out,UF.drop1.drop1⟩
   simp only[results,Tryz.results48]
   simp[go_sem,ai,g0,g1,g2,g3]
 ·have hno:s.jo b c=s:=by unfold af.jo;rw[hsh];simp;omega
  rw[hno]
  obtain⟨E,hE⟩: ∃E,E=s.gI a b c:=⟨_,rfl⟩
  have yD:=Lib.hid (fun W h (hW:In W h) (hc:ah pc L s h)=>by have:=yD.out s HT.out W h hW hc;rw[<-hE]at this;exact this)
  simp only[ptr]at yD
  rw[<-hE]
  clear hE hno hsh
  have q2:decide (b≥0)=false:=decide_eq_false (by omega)
  have q2':decide (0<=b)=false:=decide_eq_false (by omega)
  go_enter Tryz.func48,Tryz.ntmps48
  simp only[ak]
  go_wp2
  simp only[ak,ai,aT]at U0
  generalize hW:(w.alloc (.cells #[.int .i64 1, .int .i64 a, .int .i64 b, .int .i64 c, .int .u64 v] 38 (0,0))).alloc (.cells #[.int .i64 0, .bool false, .int .i64 0, .int .u64 0] 35 (0,0))=W at*
  generalize w.heap.size+1=A at*
  generalize w.heap.size=B at*
  clear hW HB0
  have U0:Hid (aj ((ph,aC pc)::h) ((A, .cells (ai aT) 35 (0,0))::(B, .cells (ak ⟨1,a,b,c,v⟩) 38 (0,0))::(ph,aC pc)::h) w W):=U0
  have X0:=aW (x:=aT) (y:=⟨1,a,b,c,v⟩) U0.out.drew'
  have x8:=HX.out _ _ _ U0.out.drew'.au.tail.tail.tail HC.out HT.out.cf
  have hS0:W.drew.cell? ⟨ph,0,none⟩=some (.pointer (some ⟨pc,0,none⟩))/\W.drew.cell? ⟨B,2,none⟩=some (.int .i64 b)/\W.drew.cell? ⟨B,3,none⟩=some (.int .i64 c)/\W.drew.cell? ⟨pc,8,none⟩=some (.int .i64 cf.largest):=⟨X0.1,X0.2.1.2.2.1,X0.2.1.2.2.2.1,x8⟩
  clear X0 x8
  refine wp_region_held_drew (S:=fun w'=>w'.cell? ⟨ph,0,none⟩=some (.pointer (some ⟨pc,0,none⟩))/\w'.cell? ⟨B,2,none⟩=some (.int .i64 b)/\w'.cell? ⟨B,3,none⟩=some (.int .i64 c)/\w'.cell? ⟨pc,8,none⟩=some (.int .i64 cf.largest)) (by kernel_rfl) (hS0) (fun hHeld=> ?_)
  refine tk 0 ?_
  refine tk 1 ?_
  refine tk 2 ?_
  refine tk 3 ?_
  try simp only[Act.put,List.setIfInBounds_toArray,List.set_cons_zero,List.set_cons_succ]
  refine wpAnyH_take (i:=4) (v:=undef) rfl (by kernel_rfl) (by kernel_rfl) (by kernel_rfl) (fun _ _ _ h=>h) (Or.inr ⟨by kernel_rfl,rfl⟩) (by assumption) ?_
  try simp only[Act.put,List.setIfInBounds_toArray,List.set_cons_zero,List.set_cons_succ]
  refine wpAnyH_take (i:=5) (v:=undef) rfl (by kernel_rfl) (by kernel_rfl) (by kernel_rfl) (fun _ _ _ h=>h) (Or.inr ⟨by kernel_rfl,rfl⟩) (by assumption) ?_
  try simp only[Act.put,List.setIfInBounds_toArray,List.set_cons_zero,List.set_cons_succ]
  refine wpAnyH_take (i:=6) (v:=undef) rfl (by kernel_rfl) (by kernel_rfl) (by kernel_rfl) (fun _ _ _ h=>h) (Or.inr ⟨by kernel_rfl,rfl⟩) (by assumption) ?_
  try simp only[Act.put,List.setIfInBounds_toArray,List.set_cons_zero,List.set_cons_succ]
  refine tk 7 ?_
  refine tk 8 ?_
  try simp only[Act.put,List.setIfInBounds_toArray,List.set_cons_zero,List.set_cons_succ]
  refine wpAnyH_take (i:=9) (v:=undef) rfl (by kernel_rfl) (by kernel_rfl) (by kernel_rfl) (fun _ _ _ h=>h) (Or.inr ⟨by kernel_rfl,rfl⟩) (by assumption) ?_
  try simp only[Act.put,List.setIfInBounds_toArray,List.set_cons_zero,List.set_cons_succ]
  refine wpAnyH_take (i:=10) (v:=undef) rfl (by kernel_rfl) (by kernel_rfl) (by kernel_rfl) (fun _ _ _ h=>h) (Or.inr ⟨by kernel_rfl,rfl⟩) (by assumption) ?_
  try simp only[Act.put,List.setIfInBounds_toArray,List.set_cons_zero,List.set_cons_succ]
  refine wpAnyH_take (i:=11) (v:=undef) rfl (by kernel_rfl) (by kernel_rfl) (by kernel_rfl) (fun _ _ _ h=>h) (Or.inr ⟨by kernel_rfl,rfl⟩) (by assumption) ?_
  try simp only[Act.put,List.setIfInBounds_toArray,List.set_cons_zero,List.set_cons_succ]
  refine wpAnyH_take (i:=12) (v:=undef) rfl (by kernel_rfl) (by kernel_rfl) (by kernel_rfl) (fun _ _ _ h=>h) (Or.inr ⟨by kernel_rfl,rfl⟩) (by assumption) ?_
  try simp only[Act.put,List.setIfInBounds_toArray,List.set_cons_zero,List.set_cons_succ]
  refine wpAnyH_take (i:=13) (v:=undef) rfl (by kernel_rfl) (by kernel_rfl) (by kernel_rfl) (fun _ _ _ h=>h) (Or.inr ⟨by kernel_rfl,rfl⟩) (by assumption) ?_
  try simp only[Act.put,List.setIfInBounds_toArray,List.set_cons_zero,List.set_cons_succ]
  refine wpAnyH_take (i:=14) (v:=undef) rfl (by kernel_rfl) (by kernel_rfl) (by kernel_rfl) (fun _ _ _ h=>h) (Or.inr ⟨by kernel_rfl,rfl⟩) (by assumption) ?_
  try simp only[Act.put,List.setIfInBounds_toArray,List.set_cons_zero,List.set_cons_succ]
  refine wpAnyH_take (i:=15) (v:=undef) rfl (by kernel_rfl) (by kernel_rfl) (by kernel_rfl) (fun _ _ _ h=>h) (Or.inr ⟨by kernel_rfl,rfl⟩) (by assumption) ?_
  try simp only[Act.put,List.setIfInBounds_toArray,List.set_cons_zero,List.set_cons_succ]
  refine wpAnyH_take (i:=16) (v:=undef) rfl (by kernel_rfl) (by kernel_rfl) (by kernel_rfl) (fun _ _ _ h=>h) (Or.inr ⟨by kernel_rfl,rfl⟩) (by assumption) ?_
  try simp only[Act.put,List.setIfInBounds_toArray,List.set_cons_zero,List.set_cons_succ]
  refine wpAnyH_take (i:=17) (v:=undef) rfl (by kernel_rfl) (by kernel_rfl) (by kernel_rfl) (fun _ _ _ h=>h) (Or.inr ⟨by kernel_rfl,rfl⟩) (by assumption) ?_
  try simp only[Act.put,List.setIfInBounds_toArray,List.set_cons_zero,List.set_cons_succ]
  refine wpAnyH_take (i:=18) (v:=undef) rfl (by kernel_rfl) (by kernel_rfl) (by kernel_rfl) (fun _ _ _ h=>h) (Or.inr ⟨by kernel_rfl,rfl⟩) (by assumption) ?_
  try simp only[Act.put,List.setIfInBounds_toArray,List.set_cons_zero,List.set_cons_succ]
  refine wpAnyH_take (i:=19) (v:=undef) rfl (by kernel_rfl) (by kernel_rfl) (by kernel_rfl) (fun _ _ _ h=>h) (Or.inr ⟨by kernel_rfl,rfl⟩) (by assumption) ?_
  try simp only[Act.put,List.setIfInBounds_toArray,List.set_cons_zero,List.set_cons_succ]
  refine tk 20 ?_
  refine tk 21 ?_
  try simp only[Act.put,List.setIfInBounds_toArray,List.set_cons_zero,List.set_cons_succ]
  refine wpAnyH_take (i:=22) (v:=undef) rfl (by kernel_rfl) (by kernel_rfl) (by kernel_rfl) (fun _ _ _ h=>h) (Or.inr ⟨by kernel_rfl,rfl⟩) (by assumption) ?_
  try simp only[Act.put,List.setIfInBounds_toArray,List.set_cons_zero,List.set_cons_succ]
  refine wpAnyH_take (i:=23) (v:=undef) rfl (by kernel_rfl) (by kernel_rfl) (by kernel_rfl) (fun _ _ _ h=>h) (Or.inr ⟨by kernel_rfl,rfl⟩) (by assumption) ?_
  try simp only[Act.put,List.setIfInBounds_toArray,List.set_cons_zero,List.set_cons_succ]
  refine wpAnyH_take (i:=24) (v:=undef) rfl (by kernel_rfl) (by kernel_rfl) (by kernel_rfl) (fun _ _ _ h=>h) (Or.inr ⟨by kernel_rfl,rfl⟩) (by assumption) ?_
  try simp only[Act.put,List.setIfInBounds_toArray,List.set_cons_zero,List.set_cons_succ]
  refine wpAnyH_take (i:=25) (v:=undef) rfl (by kernel_rfl) (by kernel_rfl) (by kernel_rfl) (fun _ _ _ h=>h) (Or.inr ⟨by kernel_rfl,rfl⟩) (by assumption) ?_
  try simp only[Act.put,List.setIfInBounds_toArray,List.set_cons_zero,List.set_cons_succ]
  refine wpAnyH_take (i:=26) (v:=undef) rfl (by kernel_rfl) (by kernel_rfl) (by kernel_rfl) (fun _ _ _ h=>h) (Or.inr ⟨by kernel_rfl,rfl⟩) (by assumption) ?_
  try simp only[Act.put,List.setIfInBounds_toArray,List.set_cons_zero,List.set_cons_succ]
  refine wpAnyH_take (i:=27) (v:=undef) rfl (by kernel_rfl) (by kernel_rfl) (by kernel_rfl) (fun _ _ _ h=>h) (Or.inr ⟨by kernel_rfl,rfl⟩) (by assumption) ?_
  try simp only[Act.put,List.setIfInBounds_toArray,List.set_cons_zero,List.set_cons_succ]
  refine wpAnyH_take (i:=28) (v:=undef) rfl (by kernel_rfl) (by kernel_rfl) (by kernel_rfl) (fun _ _ _ h=>h) (Or.inr ⟨by kernel_rfl,rfl⟩) (by assumption) ?_
  try simp only[Act.put,List.setIfInBounds_toArray,List.set_cons_zero,List.set_cons_succ]
  refine wpAnyH_take (i:=29) (v:=undef) rfl (by kernel_rfl) (by kernel_rfl) (by kernel_rfl) (fun _ _ _ h=>h) (Or.inr ⟨by kernel_rfl,rfl⟩) (by assumption) ?_
  try simp only[Act.put,List.setIfInBounds_toArray,List.set_cons_zero,List.set_cons_succ]
  refine wpAnyH_take (i:=30) (v:=undef) rfl (by kernel_rfl) (by kernel_rfl) (by kernel_rfl) (fun _ _ _ h=>h) (Or.inr ⟨by kernel_rfl,rfl⟩) (by assumption) ?_
  try simp only[Act.put,List.setIfInBounds_toArray,List.set_cons_zero,List.set_cons_succ]
  refine wpAnyH_take (i:=31) (v:=undef) rfl (by kernel_rfl) (by kernel_rfl) (by kernel_rfl) (fun _ _ _ h=>h) (Or.inr ⟨by kernel_rfl,rfl⟩) (by assumption) ?_
  try simp only[Act.put,List.setIfInBounds_toArray,List.set_cons_zero,List.set_cons_succ]
  refine wpAnyH_take (i:=32) (v:=undef) rfl (by kernel_rfl) (by kernel_rfl) (by kernel_rfl) (fun _ _ _ h=>h) (Or.inr ⟨by kernel_rfl,rfl⟩) (by assumption) ?_
  try simp only[Act.put,List.setIfInBounds_toArray,List.set_cons_zero,List.set_cons_succ]
  refine wpAnyH_take (i:=33) (v:=undef) rfl (by kernel_rfl) (by kernel_rfl) (by kernel_rfl) (fun _ _ _ h=>h) (Or.inr ⟨by kernel_rfl,rfl⟩) (by assumption) ?_
  try simp only[Act.put,List.setIfInBounds_toArray,List.set_cons_zero,List.set_cons_succ]
  refine wpAnyH_take (i:=34) (v:=undef) rfl (by kernel_rfl) (by kernel_rfl) (by kernel_rfl) (fun _ _ _ h=>h) (Or.inr ⟨by kernel_rfl,rfl⟩) (by assumption) ?_
  try simp only[Act.put,List.setIfInBounds_toArray,List.set_cons_zero,List.set_cons_succ]
  refine wpAnyH_take (i:=35) (v:=undef) rfl (by kernel_rfl) (by kernel_rfl) (by kernel_rfl) (fun _ _ _ h=>h) (Or.inr ⟨by kernel_rfl,rfl⟩) (by assumption) ?_
  try simp only[Act.put,List.setIfInBounds_toArray,List.set_cons_zero,List.set_cons_succ]
  refine tk 36 ?_
  try simp only[Act.put,List.setIfInBounds_toArray,List.set_cons_zero,List.set_cons_succ]
  refine wpAnyH_done (by kernel_rfl) ?_ _
  go_simp
  go_wp2
  have U3:=Lib.hid U0.out.drew'
  generalize W.drew=W3 at*
  clear U0
  have X3:=aW (x:=aT) (y:=⟨1,a,b,c,v⟩) U3.out.drew'
  have hS3:W3.drew.cell? ⟨ph,0,none⟩=some (.pointer (some ⟨pc,0,none⟩))/\W3.drew.cell? ⟨B,1,none⟩=some (.int .i64 a)/\W3.drew.cell? ⟨B,2,none⟩=some (.int .i64 b)/\W3.drew.cell? ⟨B,3,none⟩=some (.int .i64 c):=⟨X3.1,X3.2.1.2.1,X3.2.1.2.2.1,X3.2.1.2.2.2.1⟩
  clear X3
  refine wp_region_held_drew (S:=fun w'=>w'.cell? ⟨ph,0,none⟩=some (.pointer (some ⟨pc,0,none⟩))/\w'.cell? ⟨B,1,none⟩=some (.int .i64 a)/\w'.cell? ⟨B,2,none⟩=some (.int .i64 b)/\w'.cell? ⟨B,3,none⟩=some (.int .i64 c)) (by kernel_rfl) (hS3) (fun hHeld=> ?_)
  refine tk 0 ?_
  refine tk 1 ?_
  refine tk 2 ?_
  refine tk 3 ?_
  refine tk 4 ?_
  refine tk 5 ?_
  refine tk 6 ?_
  refine tk 7 ?_
  refine tk 8 ?_
  refine tk 9 ?_
  try simp only[Act.put,List.setIfInBounds_toArray,List.set_cons_zero,List.set_cons_succ]
  refine wpAnyH_ready (rs:=[10]) (by kernel_rfl) (by simp) ?_
  refine AllReadyH.cons (o:=_) rfl (fun K hK=> ?_) AllReadyH.nil
  go_simp
  go_wp2_with(go_at_call 41;refine Calls.mono (yD.out _ _ U3.out.drew'.au.tail.tail.tail HC.out) ?_;rintro en w5 ⟨rfl,h5,c5,u5⟩;have C5:=Lib.hid c5;have U5:=Lib.hid (aj.dP (x:=[(A, .cells (ai aT) 35 (0,0)),(B, .cells (ak ⟨1,a,b,c,v⟩) 38 (0,0)),(ph,aC pc)]) U3.out.drew' u5);have X5:=aW (x:=aT) (y:=⟨1,a,b,c,v⟩) U5.out;have X6:=aW (x:=⟨E,false,0,0⟩) (y:=⟨1,a,b,c,v⟩) (aj.lV (x:=aT) U5.out ⟨E,false,0,0⟩);(obtain⟨d0,d1,d2,d3⟩:=X5.2.2.1);(obtain⟨f0,f1,f2,f3⟩:=X5.2.2.2);simp only[aT]at d0 d1 d2 d3;clear c5 u5)
  try go_wp2_with fail
  refine hK.out _ _ (⟨X5.1,X5.2.1.2.1,X5.2.1.2.2.1,X5.2.1.2.2.2.1⟩) (fun hHeld=> ?_)
  clear hK K
  try simp only[Act.put,List.setIfInBounds_toArray,List.set_cons_zero,List.set_cons_succ]
  refine tk 11 ?_
  try simp only[Act.put,List.setIfInBounds_toArray,List.set_cons_zero,List.set_cons_succ]
  refine wpAnyH_ready (rs:=[12]) (by kernel_rfl) (by simp) ?_
  refine AllReadyH.cons (o:=_) rfl (fun K hK=> ?_) AllReadyH.nil
  go_simp
  skip
  try go_wp2_with fail
  refine hK.out _ _ (⟨X6.1,X6.2.1.2.1,X6.2.1.2.2.1,X6.2.1.2.2.2.1⟩) (fun hHeld=> ?_)
  clear hK K
  try simp only[Act.put,List.setIfInBounds_toArray,List.set_cons_zero,List.set_cons_succ]
  refine wpAnyH_done (by kernel_rfl) ?_ _
  go_simp
  go_wp2
  have UF:=aj.lV (x:=aT) U5.out ⟨E,false,0,0⟩
  have G:=bK UF.au.head
  simp only at G
  obtain⟨g0,g1,g2,g3⟩:=G
  clear d0 d1 d2 d3 f0 f1 f2 f3 X5 X6
  refine bodyPost_ret (v:= .agg (ai ⟨E,false,0,0⟩)) ?_ rfl ⟨rfl,h5,C5.out,UF.drop1.drop1⟩
  simp only[results,Tryz.results48]
  simp[go_sem,ai,g0,g1,g2,g3]
end Go.Proofs.YtibemcgdmembeaaGreat
