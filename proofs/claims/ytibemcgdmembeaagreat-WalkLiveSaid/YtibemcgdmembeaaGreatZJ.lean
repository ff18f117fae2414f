/- What asks of package heap comes to, entry by entry. Conditions: the contract of the core's call. -/
import Derived.Test.YtibemcgdmembeaaGreatRows
import Derived.Test.YtibemcgdmembeaaGreatZA
import Derived.Deep.RegionHeld3
import Derived.Test.YtibemcgdmembeaaGreatZH
import Derived.Test.YtibemcgdmembeaaGreatZI
import Derived.Test.YtibemcgdmembeaaGreatZC
import Derived.Lib.MinMax
set_option linter.unusedVariables false
set_option linter.unusedSimpArgs false
set_option maxRecDepth 100000
set_option maxHeartbeats 4000000
namespace Go.Proofs.YtibemcgdmembeaaGreat
open Go.RowKit
section
variable{P:Program}{ops:Array Oper}{Q:Exit->Act->World->Prop}{md:Region.Mode}{S:World->Prop}
theorem tk(i:Nat){oi:Oper}{v:Value}{fuel:Nat}{listed:Array Bool}{a:Act}{w:World}(h:wpAnyH P md ops Q S fuel (listed.setIfInBounds i true) (a.put oi.dst v) w)(hi:ops[i]? =some oi:=by rfl)
  (hs:Region.noSelect ops=true:=by kernel_rfl)(hf:Region.free md ops listed i=true:=by kernel_rfl)(hr:(Region.ready md ops listed).contains i=true:=by kernel_rfl)
  (hQ: ∀c a w,Q (.panic c) (a.put oi.dst v) w->Q (.panic c) a w:=by exact fun _ _ _ h=>h)(hw:Region.wanted oi (yielded ops a.tmps)=true:=by kernel_rfl)
  (hy: ∀w':World,S w'->(execOp a.eval oi).run P w'= .ok (.value v) w':=by(intro w' hSw;(try dsimp only at hSw);go_simp;(try with_reducible rfl)))(hS:S w:=by assumption):
  wpAnyH P md ops Q S (fuel+1) listed a w:=wpAnyH_take hi hs hf hr hQ (Or.inl ⟨hw,hy⟩) hS h
end
end Go.Proofs.YtibemcgdmembeaaGreat
namespace Go.Proofs.YtibemcgdmembeaaGreat
open Go.RowKit
def iY(words Tc:Int):Int:=max 0 (min words 1048576)*max 0 (min Tc 64)
theorem uZ(a b:Int):0<=iY a b/\iY a b<=67108864:=by
 unfold iY
 have h1:0<=max 0 (min a 1048576)/\max 0 (min a 1048576)<=1048576:=by omega
 have h2:0<=max 0 (min b 64)/\max 0 (min b 64)<=64:=by omega
 have:=Int.mul_nonneg h1.1 h2.1
 have:max 0 (min a 1048576)*max 0 (min b 64)<=1048576*64:=Int.mul_le_mul h1.2 h2.2 h2.1 (by omega)
 omega
def af.xk(s:af):Bool:= !s.aG&&decide (s.C.dH<=s.y.cu)
def af.Ac(s:af):af:=if s.xk=true then s.eY else s
def af.jY(s:af):Bool:=decide (s.phase=0)&&decide ((lF s.o.pages:Int)<=s.C.dm)
def af.rZ(s:af):af:=if s.jY=true then s.dF else s
def af.uo(s:af)(words:Int):af:=(s.ja (iY words s.C.minor)).1
def af.uq(s:af)(words:Int):af:=(s.nV (iY words s.C.major)).1
def af.qc(s:af)(words:Int):af:=(s.Ac.rZ.uo words).uq words
section
variable{s:af}{c:gX}{N:Int->dB}{hs:List Int}{m:Int}
theorem dM.Ac(T:dM s c N hs m):dM s.Ac c N hs m:=by
 unfold af.Ac
 split
 ·exact T.eY
 ·exact T
theorem dM.rZ(T:dM s c N hs m):dM s.rZ c N hs m:=by
 unfold af.rZ
 split
 ·exact T.dF
 ·exact T
theorem dM.qc(T:dM s c N hs m)(words:Int):dM (s.qc words) c N hs m:=((T.Ac.rZ).ja _).nV _
end
theorem IC(c:gX)(used:Int)(w:World):
  Calls Tryz.prog 135 #[.agg (aN c), .int .i64 used] w fun e w'=>e= .returned (.bool (decide (c.dH<=used)))/\aj [] [] w w':=by
 have hU:=aj.skip (In.nil w) (.cells (aN c) 23 (0,0))
 simp only[aN]at*
 go_enter Tryz.func135,Tryz.ntmps135
 go_wp2
 go_ret
 exact⟨rfl,hU⟩
theorem IE(c:gX)(free:Int)(w:World):
  Calls Tryz.prog 136 #[.agg (aN c), .int .i64 free] w fun e w'=>e= .returned (.bool (decide (free<=c.dm)))/\aj [] [] w w':=by
 have hU:=aj.skip (In.nil w) (.cells (aN c) 23 (0,0))
 simp only[aN]at*
 go_enter Tryz.func136,Tryz.ntmps136
 go_wp2
 go_ret
 exact⟨rfl,hU⟩
theorem gW(words Tc:Int)(w:World):
  Calls Tryz.prog 137 #[.int .i64 words, .int .i64 Tc] w fun e w'=>e= .returned (.int .i64 (iY words Tc))/\w'=w:=by
 have hq:=uZ words Tc
 have HQ:Hid (iY words Tc=max 0 (min words 1048576)*max 0 (min Tc 64)):=Lib.hid rfl
 rw[HQ.out]at hq⊢
 have hwr:IntKind.i64.wrap (max 0 (min words 1048576)*max 0 (min Tc 64))=max 0 (min words 1048576)*max 0 (min Tc 64):=IntWalk.i64_in _ (by omega)
 go_enter Tryz.func137,Tryz.ntmps137
 go_wp2
 go_ret
 exact⟨rfl,rfl⟩
def aC(pc:Nat):Obj:= .cells #[.pointer (some ⟨pc,0,none⟩)] 85 (0,0)
structure Zg(pc:Nat)(L:aX)(c:gX)(w:World):Prop where
 c0:w.cell? ⟨pc,0,none⟩=some (.int .i64 c.handles)
 c1:w.cell? ⟨pc,1,none⟩=some (.int .i64 c.aU)
 c2:w.cell? ⟨pc,2,none⟩=some (.int .i64 c.pages)
 c3:w.cell? ⟨pc,3,none⟩=some (.int .i64 c.page)
 c4:w.cell? ⟨pc,4,none⟩=some (.int .i64 c.card)
 c5:w.cell? ⟨pc,5,none⟩=some (.int .i64 c.buffer)
 c6:w.cell? ⟨pc,6,none⟩=some (.int .i64 c.stack)
 c7:w.cell? ⟨pc,7,none⟩=some (.int .i64 c.d_)
 c8:w.cell? ⟨pc,8,none⟩=some (.int .i64 c.largest)
 c9:w.cell? ⟨pc,9,none⟩=some (.int .i64 c.minor)
 c10:w.cell? ⟨pc,10,none⟩=some (.int .i64 c.major)
 c11:w.cell? ⟨pc,11,none⟩=some (.int .i64 c.dH)
 c12:w.cell? ⟨pc,12,none⟩=some (.int .i64 c.dm)
 py:w.cell? ⟨pc,14,none⟩=some (.pointer (some ⟨L.py,0,none⟩))
 po:w.cell? ⟨pc,15,none⟩=some (.pointer (some ⟨L.po,0,none⟩))
theorem ah.Xg{pc:Nat}{L:aX}{s:af}{c:gX}{h:Hp}{w:World}(hc:ah pc L s h)(hi:In w h)(e:s.C=c):Zg pc L c w:=by
 obtain⟨v,ha',hy,ho,hr,hg,ht,hw,rfl,ca,cy,co,cr,cg,ct,cw⟩:=hc
 have H:=In.core (x:=[]) hi
 subst e
 exact⟨cell_of H 0,cell_of H 1,cell_of H 2,cell_of H 3,cell_of H 4,cell_of H 5,cell_of H 6,cell_of H 7,cell_of H 8,cell_of H 9,cell_of H 10,cell_of H 11,cell_of H 12,cell_of H 14,cell_of H 15⟩
theorem aj.iL{w0 w w':World}{h0 h h':Hp}{x:Nat×Obj}(a:aj h0 (x::h) w0 w)(u:aj h h' w w'):aj h0 (x::h') w0 w':=aj.dP (x:=[x]) a u
end Go.Proofs.YtibemcgdmembeaaGreat
namespace Go.Proofs.YtibemcgdmembeaaGreat
open Go.RowKit
theorem Qu(ph pc:Nat)(L:aX){s:af}{c:gX}{N:Int->dB}{hs:List Int}{m:Int}(T:dM s c N hs m)(words:Int)(w:World)(h:Hp)(hi:In w ((ph,aC pc)::h))(hc:ah pc L s h):
  Calls Tryz.prog 98 #[.pointer (some ⟨ph,0,none⟩), .int .i64 words] w fun e w'=>e= .returned (.tuple #[])/\ ∃h',ah pc L (s.qc words) h'/\aj ((ph,aC pc)::h) ((ph,aC pc)::h') w w':=by
 have own:w.cell? ⟨ph,0,none⟩=some (.pointer (some ⟨pc,0,none⟩)):=cell_of hi.head 0
 have HX:=Lib.hid (fun S W h (hW:In W ((ph,aC pc)::h)) (hc:ah pc L S h) (e:S.C=c)=>And.intro (hc.Xg hW.tail e) (hc.vU hW.tail))
 have HV:=Lib.hid (fun S W h (hW:In W ((ph,aC pc)::h)) (hc:ah pc L S h)=>(ah.vars (x:=[]) hc hW.tail).2)
 have TM:=Lib.hid (fun S W h (hW:In W ((ph,aC pc)::h)) (hc:ah pc L S h)=>wS pc L S W h hW.tail hc)
 have EY:=Lib.hid (fun S W h (hW:In W ((ph,aC pc)::h)) (hc:ah pc L S h)=>JX pc L S W h hW.tail hc)
 have TP:=Lib.hid (fun S W h (hW:In W ((ph,aC pc)::h)) (hc:ah pc L S h) (T:dM S c N hs m)=>wC pc L T W h hW.tail hc)
 have Zh:=Lib.hid (fun S W h (hW:In W ((ph,aC pc)::h)) (hc:ah pc L S h) (T:dM S c N hs m)=>wE pc L T W h hW.tail hc)
 have Td:=Lib.hid (fun S work W h (hW:In W ((ph,aC pc)::h)) (hc:ah pc L S h) (T:dM S c N hs m) (hw:work<=100000000000)=>zM pc L T work hw W h hW.tail hc)
 have Tf:=Lib.hid (fun S work W h (hW:In W ((ph,aC pc)::h)) (hc:ah pc L S h) (T:dM S c N hs m) (hw:work<=100000000000)=>zN pc L T work hw W h hW.tail hc)
 have FY:=Lib.hid (fun a b=>(uZ a b).2)
 have XP:=Lib.hid (fun used W=>IC c used W)
 have OA:=Lib.hid (fun used W=>IE c used W)
 have HT:=Lib.hid T
 have HC:=Lib.hid hc
 have HU:=Lib.hid (aj.refl hi)
 have HE:Hid (s.qc words=(s.Ac.rZ.uo words).uq words):=Lib.hid rfl
 have Ti:Hid (∀S:af,S.C=c->S.uo words=(S.ja (iY words c.minor)).1):=Lib.hid (fun S e=>by unfold af.uo;rw[e])
 have Tj:Hid (∀S:af,S.C=c->S.uq words=(S.nV (iY words c.major)).1):=Lib.hid (fun S e=>by unfold af.uq;rw[e])
 have X0:=HX.out s w h hi hc T.cf
 have k21:=HV.out s w h hi hc
 have hcf:=T.cf
 cases hmv:s.aG
 ·have hA0:w.drew.cell? ⟨pc,21,none⟩=some (.bool false)/\w.drew.cell? ⟨pc,14,none⟩=some (.pointer (some ⟨L.py,0,none⟩))/\w.drew.cell? ⟨pc,0,none⟩=some (.int .i64 c.handles)/\w.drew.cell? ⟨pc,1,none⟩=some (.int .i64 c.aU)/\w.drew.cell? ⟨pc,2,none⟩=some (.int .i64 c.pages)/\w.drew.cell? ⟨pc,3,none⟩=some (.int .i64 c.page)/\w.drew.cell? ⟨pc,4,none⟩=some (.int .i64 c.card)/\w.drew.cell? ⟨pc,5,none⟩=some (.int .i64 c.buffer)/\w.drew.cell? ⟨pc,6,none⟩=some (.int .i64 c.stack)/\w.drew.cell? ⟨pc,7,none⟩=some (.int .i64 c.d_)/\w.drew.cell? ⟨pc,8,none⟩=some (.int .i64 c.largest)/\w.drew.cell? ⟨pc,9,none⟩=some (.int .i64 c.minor)/\w.drew.cell? ⟨pc,10,none⟩=some (.int .i64 c.major)/\w.drew.cell? ⟨pc,11,none⟩=some (.int .i64 c.dH)/\w.drew.cell? ⟨pc,12,none⟩=some (.int .i64 c.dm):=⟨by rw[hmv]at k21;exact k21,X0.1.py,X0.1.c0,X0.1.c1,X0.1.c2,X0.1.c3,X0.1.c4,X0.1.c5,X0.1.c6,X0.1.c7,X0.1.c8,X0.1.c9,X0.1.c10,X0.1.c11,X0.1.c12⟩
  by_cases ha:c.dH<=s.y.cu
  ·have hon:s.xk=true:=by unfold af.xk;rw[hcf,hmv];simp[ha]
   have HA:Hid (s.Ac=s.eY):=Lib.hid (by unfold af.Ac;rw[if_pos hon])
   clear hon k21 X0 hcf hi hc T
   go_enter Tryz.func98,Tryz.ntmps98
   go_wp2
   refine wp_region_held_drew (S:=fun w'=>w'.cell? ⟨pc,21,none⟩=some (.bool false)/\w'.cell? ⟨pc,14,none⟩=some (.pointer (some ⟨L.py,0,none⟩))/\w'.cell? ⟨pc,0,none⟩=some (.int .i64 c.handles)/\w'.cell? ⟨pc,1,none⟩=some (.int .i64 c.aU)/\w'.cell? ⟨pc,2,none⟩=some (.int .i64 c.pages)/\w'.cell? ⟨pc,3,none⟩=some (.int .i64 c.page)/\w'.cell? ⟨pc,4,none⟩=some (.int .i64 c.card)/\w'.cell? ⟨pc,5,none⟩=some (.int .i64 c.buffer)/\w'.cell? ⟨pc,6,none⟩=some (.int .i64 c.stack)/\w'.cell? ⟨pc,7,none⟩=some (.int .i64 c.d_)/\w'.cell? ⟨pc,8,none⟩=some (.int .i64 c.largest)/\w'.cell? ⟨pc,9,none⟩=some (.int .i64 c.minor)/\w'.cell? ⟨pc,10,none⟩=some (.int .i64 c.major)/\w'.cell? ⟨pc,11,none⟩=some (.int .i64 c.dH)/\w'.cell? ⟨pc,12,none⟩=some (.int .i64 c.dm)) (by kernel_rfl) (hA0) (fun hHeld=> ?_)
   refine tk 0 ?_
   refine tk 1 ?_
   refine tk 2 ?_
   refine tk 3 ?_
   refine tk 4 ?_
   refine tk 5 ?_
   refine tk 6 ?_
   refine tk 7 ?_
   refine tk 8 ?_
   refine tk 9 ?_
   refine tk 10 ?_
   refine tk 11 ?_
   refine tk 12 ?_
   refine tk 13 ?_
   try simp only[Act.put,List.setIfInBounds_toArray,List.set_cons_zero,List.set_cons_succ]
   refine wpAnyH_ready (rs:=[14]) (by kernel_rfl) (by simp) ?_
   refine AllReadyH.cons (o:=_) rfl (fun K hK=> ?_) AllReadyH.nil
   go_simp
   go_wp2_with(go_at_call 120;refine Calls.mono (TM.out _ _ _ HU.out.drew'.au HC.out) ?_;rintro e w3 ⟨rfl,u3⟩;have U3:=Lib.hid (HU.out.drew'.iL u3);have X3:=HX.out _ _ _ U3.out.au HC.out HT.out.cf;have v3:=HV.out _ _ _ U3.out.au HC.out;rw[hmv]at v3)
   try go_wp2_with fail
   refine hK.out _ _ (⟨v3,X3.1.py,X3.1.c0,X3.1.c1,X3.1.c2,X3.1.c3,X3.1.c4,X3.1.c5,X3.1.c6,X3.1.c7,X3.1.c8,X3.1.c9,X3.1.c10,X3.1.c11,X3.1.c12⟩) (fun hHeld=> ?_)
   clear hK K
   try simp only[Act.put,List.setIfInBounds_toArray,List.set_cons_zero,List.set_cons_succ]
   refine wpAnyH_ready (rs:=[15]) (by kernel_rfl) (by simp) ?_
   refine AllReadyH.cons (o:=_) rfl (fun K hK=> ?_) AllReadyH.nil
   go_simp
   simp only[aN]at XP;go_wp2_with(go_at_call 135;refine Calls.mono (XP.out _ _) ?_;rintro e w4 ⟨rfl,u4⟩;have U4:=Lib.hid (U3.out.dK u4);have X4:=HX.out _ _ _ U4.out.au HC.out HT.out.cf;have v4:=HV.out _ _ _ U4.out.au HC.out;rw[hmv]at v4)
   try go_wp2_with fail
   refine hK.out _ _ (⟨v4,X4.1.py,X4.1.c0,X4.1.c1,X4.1.c2,X4.1.c3,X4.1.c4,X4.1.c5,X4.1.c6,X4.1.c7,X4.1.c8,X4.1.c9,X4.1.c10,X4.1.c11,X4.1.c12⟩) (fun hHeld=> ?_)
   clear hK K
   try simp only[Act.put,List.setIfInBounds_toArray,List.set_cons_zero,List.set_cons_succ]
   refine tk 16 ?_
   try simp only[Act.put,List.setIfInBounds_toArray,List.set_cons_zero,List.set_cons_succ]
   refine wpAnyH_done (by kernel_rfl) ?_ _
   go_simp
   go_wp2_with(go_at_call 73;refine Calls.mono (TP.out _ _ _ U4.out.au HC.out HT.out) ?_;rintro e w1 ⟨rfl,h1,c1,u1⟩;have U1:=Lib.hid (U4.out.iL u1);have C1:=Lib.hid c1;have T1:=Lib.hid HT.out.eY;clear u1 c1)
   have xR:Hid (s.qc words=(s.eY.rZ.uo words).uq words):=Lib.hid (by rw[HE.out,HA.out])
   obtain⟨s1,hs1⟩: ∃s1,s1=s.eY:=⟨_,rfl⟩
   rw[<-hs1]at xR C1 T1
   clear hs1 U3 U4 X3 X4 v3 v4 hA0
   obtain⟨k20,_⟩:(w1.cell? ⟨pc,20,none⟩=some (.int .i64 s1.phase))/\True:=⟨(HX.out _ _ _ U1.out.au C1.out T1.out.cf).2.ph,trivial⟩
   by_cases p0:s1.phase=0
   ·have X1:=HX.out _ _ _ U1.out.drew'.au C1.out T1.out.cf
    have hB0:w1.drew.cell? ⟨pc,20,none⟩=some (.int .i64 0)/\w1.drew.cell? ⟨pc,15,none⟩=some (.pointer (some ⟨L.po,0,none⟩))/\w1.drew.cell? ⟨pc,0,none⟩=some (.int .i64 c.handles)/\w1.drew.cell? ⟨pc,1,none⟩=some (.int .i64 c.aU)/\w1.drew.cell? ⟨pc,2,none⟩=some (.int .i64 c.pages)/\w1.drew.cell? ⟨pc,3,none⟩=some (.int .i64 c.page)/\w1.drew.cell? ⟨pc,4,none⟩=some (.int .i64 c.card)/\w1.drew.cell? ⟨pc,5,none⟩=some (.int .i64 c.buffer)/\w1.drew.cell? ⟨pc,6,none⟩=some (.int .i64 c.stack)/\w1.drew.cell? ⟨pc,7,none⟩=some (.int .i64 c.d_)/\w1.drew.cell? ⟨pc,8,none⟩=some (.int .i64 c.largest)/\w1.drew.cell? ⟨pc,9,none⟩=some (.int .i64 c.minor)/\w1.drew.cell? ⟨pc,10,none⟩=some (.int .i64 c.major)/\w1.drew.cell? ⟨pc,11,none⟩=some (.int .i64 c.dH)/\w1.drew.cell? ⟨pc,12,none⟩=some (.int .i64 c.dm):=⟨by have:=X1.2.ph;rw[p0]at this;exact this,X1.1.po,X1.1.c0,X1.1.c1,X1.1.c2,X1.1.c3,X1.1.c4,X1.1.c5,X1.1.c6,X1.1.c7,X1.1.c8,X1.1.c9,X1.1.c10,X1.1.c11,X1.1.c12⟩
    clear X1
    by_cases f0:(lF s1.o.pages:Int)<=c.dm
    ·have hon:s1.jY=true:=by unfold af.jY;rw[T1.out.cf];simp[p0,f0]
     have HE2:Hid (s.qc words=(s1.dF.uo words).uq words):=Lib.hid (by rw[xR.out];unfold af.rZ;rw[if_pos hon])
     clear hon k20
     refine wp_region_held_drew (S:=fun w'=>w'.cell? ⟨pc,20,none⟩=some (.int .i64 0)/\w'.cell? ⟨pc,15,none⟩=some (.pointer (some ⟨L.po,0,none⟩))/\w'.cell? ⟨pc,0,none⟩=some (.int .i64 c.handles)/\w'.cell? ⟨pc,1,none⟩=some (.int .i64 c.aU)/\w'.cell? ⟨pc,2,none⟩=some (.int .i64 c.pages)/\w'.cell? ⟨pc,3,none⟩=some (.int .i64 c.page)/\w'.cell? ⟨pc,4,none⟩=some (.int .i64 c.card)/\w'.cell? ⟨pc,5,none⟩=some (.int .i64 c.buffer)/\w'.cell? ⟨pc,6,none⟩=some (.int .i64 c.stack)/\w'.cell? ⟨pc,7,none⟩=some (.int .i64 c.d_)/\w'.cell? ⟨pc,8,none⟩=some (.int .i64 c.largest)/\w'.cell? ⟨pc,9,none⟩=some (.int .i64 c.minor)/\w'.cell? ⟨pc,10,none⟩=some (.int .i64 c.major)/\w'.cell? ⟨pc,11,none⟩=some (.int .i64 c.dH)/\w'.cell? ⟨pc,12,none⟩=some (.int .i64 c.dm)) (by kernel_rfl) (hB0) (fun hHeld=> ?_)
     refine tk 0 ?_
     refine tk 1 ?_
     refine tk 2 ?_
     refine tk 3 ?_
     refine tk 4 ?_
     refine tk 5 ?_
     refine tk 6 ?_
     refine tk 7 ?_
     refine tk 8 ?_
     refine tk 9 ?_
     refine tk 10 ?_
     refine tk 11 ?_
     refine tk 12 ?_
     refine tk 13 ?_
     try simp only[Act.put,List.setIfInBounds_toArray,List.set_cons_zero,List.set_cons_succ]
     refine wpAnyH_ready (rs:=[14]) (by kernel_rfl) (by simp) ?_
     refine AllReadyH.cons (o:=_) rfl (fun K hK=> ?_) AllReadyH.nil
     go_simp
     go_wp2_with(go_at_call 33;refine Calls.mono (EY.out _ _ _ U1.out.drew'.au C1.out) ?_;rintro e w5 ⟨rfl,hw5⟩;obtain rfl:=hw5.symm;clear hw5)
     try go_wp2_with fail
     refine hK.out _ _ (hB0) (fun hHeld=> ?_)
     clear hK K
     try simp only[Act.put,List.setIfInBounds_toArray,List.set_cons_zero,List.set_cons_succ]
     refine wpAnyH_ready (rs:=[15]) (by kernel_rfl) (by simp) ?_
     refine AllReadyH.cons (o:=_) rfl (fun K hK=> ?_) AllReadyH.nil
     go_simp
     simp only[aN]at OA;go_wp2_with(go_at_call 136;refine Calls.mono (OA.out _ _) ?_;rintro e w6 ⟨rfl,u6⟩;have U6:=Lib.hid (U1.out.drew'.dK u6);have X2:=HX.out _ _ _ U6.out.au C1.out T1.out.cf)
     try go_wp2_with fail
     refine hK.out _ _ (⟨by have:=X2.2.ph;rw[p0]at this;exact this,X2.1.po,X2.1.c0,X2.1.c1,X2.1.c2,X2.1.c3,X2.1.c4,X2.1.c5,X2.1.c6,X2.1.c7,X2.1.c8,X2.1.c9,X2.1.c10,X2.1.c11,X2.1.c12⟩) (fun hHeld=> ?_)
     clear hK K
     try simp only[Act.put,List.setIfInBounds_toArray,List.set_cons_zero,List.set_cons_succ]
     refine tk 16 ?_
     try simp only[Act.put,List.setIfInBounds_toArray,List.set_cons_zero,List.set_cons_succ]
     refine wpAnyH_done (by kernel_rfl) ?_ _
     go_simp
     go_wp2_with(go_at_call 72;refine Calls.mono (Zh.out _ _ _ U6.out.au C1.out T1.out) ?_;rintro e w7 ⟨rfl,h7,c7,u7⟩;have U7:=Lib.hid (U6.out.iL u7);have C7:=Lib.hid c7;have T7:=Lib.hid T1.out.dF;have x9:=(HX.out _ _ _ U7.out.au c7 T7.out.cf).1.c9;clear u7 c7)
     go_wp2_with(first
      | (go_at_call 137;refine Calls.mono (gW _ _ _) ?_;rintro e w8 ⟨rfl,hw8⟩;obtain rfl:=hw8.symm;clear hw8)
      | (go_at_call 104;refine Calls.mono (Td.out _ _ _ _ U7.out.au C7.out T7.out (by have:=FY.out words c.minor;omega)) ?_;rintro e w9 ⟨rfl,h9,c9,u9⟩;have U9:=Lib.hid (U7.out.iL u9);have C9:=Lib.hid c9;have T9:=Lib.hid (T7.out.ja (iY words c.minor));have Oy:=(HX.out _ _ _ U9.out.au c9 T9.out.cf).1.c10;clear u9 c9)
      | (go_at_call 105;refine Calls.mono (Tf.out _ _ _ _ U9.out.au C9.out T9.out (by have:=FY.out words c.major;omega)) ?_;rintro e w10 ⟨rfl,h10,c10,u10⟩;have xu:=Lib.hid (U9.out.iL u10);have C10:=Lib.hid c10;clear u10 c10))
     go_end0
     refine⟨rfl,h10, ?_,xu.out⟩
     rw[HE2.out,Ti.out _ T7.out.cf,Tj.out _ T9.out.cf]
     exact C10.out
    ·have hon: ¬s1.jY=true:=by unfold af.jY;rw[T1.out.cf];simp[f0]
     have HE2:Hid (s.qc words=(s1.uo words).uq words):=Lib.hid (by rw[xR.out];unfold af.rZ;rw[if_neg hon])
     clear hon k20
     refine wp_region_held_drew (S:=fun w'=>w'.cell? ⟨pc,20,none⟩=some (.int .i64 0)/\w'.cell? ⟨pc,15,none⟩=some (.pointer (some ⟨L.po,0,none⟩))/\w'.cell? ⟨pc,0,none⟩=some (.int .i64 c.handles)/\w'.cell? ⟨pc,1,none⟩=some (.int .i64 c.aU)/\w'.cell? ⟨pc,2,none⟩=some (.int .i64 c.pages)/\w'.cell? ⟨pc,3,none⟩=some (.int .i64 c.page)/\w'.cell? ⟨pc,4,none⟩=some (.int .i64 c.card)/\w'.cell? ⟨pc,5,none⟩=some (.int .i64 c.buffer)/\w'.cell? ⟨pc,6,none⟩=some (.int .i64 c.stack)/\w'.cell? ⟨pc,7,none⟩=some (.int .i64 c.d_)/\w'.cell? ⟨pc,8,none⟩=some (.int .i64 c.largest)/\w'.cell? ⟨pc,9,none⟩=some (.int .i64 c.minor)/\w'.cell? ⟨pc,10,none⟩=some (.int .i64 c.major)/\w'.cell? ⟨pc,11,none⟩=some (.int .i64 c.dH)/\w'.cell? ⟨pc,12,none⟩=some (.int .i64 c.dm)) (by kernel_rfl) (hB0) (fun hHeld=> ?_)
     refine tk 0 ?_
     refine tk 1 ?_
     refine tk 2 ?_
     refine tk 3 ?_
     refine tk 4 ?_
     refine tk 5 ?_
     refine tk 6 ?_
     refine tk 7 ?_
     refine tk 8 ?_
     refine tk 9 ?_
     refine tk 10 ?_
     refine tk 11 ?_
     refine tk 12 ?_
     refine tk 13 ?_
     try simp only[Act.put,List.setIfInBounds_toArray,List.set_cons_zero,List.set_cons_succ]
     refine wpAnyH_ready (rs:=[14]) (by kernel_rfl) (by simp) ?_
     refine AllReadyH.cons (o:=_) rfl (fun K hK=> ?_) AllReadyH.nil
     go_simp
     go_wp2_with(go_at_call 33;refine Calls.mono (EY.out _ _ _ U1.out.drew'.au C1.out) ?_;rintro e w5 ⟨rfl,hw5⟩;obtain rfl:=hw5.symm;clear hw5)
     try go_wp2_with fail
     refine hK.out _ _ (hB0) (fun hHeld=> ?_)
     clear hK K
     try simp only[Act.put,List.setIfInBounds_toArray,List.set_cons_zero,List.set_cons_succ]
     refine wpAnyH_ready (rs:=[15]) (by kernel_rfl) (by simp) ?_
     refine AllReadyH.cons (o:=_) rfl (fun K hK=> ?_) AllReadyH.nil
     go_simp
     simp only[aN]at OA;go_wp2_with(go_at_call 136;refine Calls.mono (OA.out _ _) ?_;rintro e w6 ⟨rfl,u6⟩;have U6:=Lib.hid (U1.out.drew'.dK u6);have X2:=HX.out _ _ _ U6.out.au C1.out T1.out.cf)
     try go_wp2_with fail
     refine hK.out _ _ (⟨by have:=X2.2.ph;rw[p0]at this;exact this,X2.1.po,X2.1.c0,X2.1.c1,X2.1.c2,X2.1.c3,X2.1.c4,X2.1.c5,X2.1.c6,X2.1.c7,X2.1.c8,X2.1.c9,X2.1.c10,X2.1.c11,X2.1.c12⟩) (fun hHeld=> ?_)
     clear hK K
     try simp only[Act.put,List.setIfInBounds_toArray,List.set_cons_zero,List.set_cons_succ]
     refine tk 16 ?_
     try simp only[Act.put,List.setIfInBounds_toArray,List.set_cons_zero,List.set_cons_succ]
     refine wpAnyH_done (by kernel_rfl) ?_ _
     go_simp
     have x9:=(HX.out _ _ _ U6.out.au C1.out T1.out.cf).1.c9
     go_wp2_with(first
      | (go_at_call 137;refine Calls.mono (gW _ _ _) ?_;rintro e w8 ⟨rfl,hw8⟩;obtain rfl:=hw8.symm;clear hw8)
      | (go_at_call 104;refine Calls.mono (Td.out _ _ _ _ U6.out.au C1.out T1.out (by have:=FY.out words c.minor;omega)) ?_;rintro e w9 ⟨rfl,h9,c9,u9⟩;have U9:=Lib.hid (U6.out.iL u9);have C9:=Lib.hid c9;have T9:=Lib.hid (T1.out.ja (iY words c.minor));have Oy:=(HX.out _ _ _ U9.out.au c9 T9.out.cf).1.c10;clear u9 c9)
      | (go_at_call 105;refine Calls.mono (Tf.out _ _ _ _ U9.out.au C9.out T9.out (by have:=FY.out words c.major;omega)) ?_;rintro e w10 ⟨rfl,h10,c10,u10⟩;have xu:=Lib.hid (U9.out.iL u10);have C10:=Lib.hid c10;clear u10 c10))
     go_end0
     refine⟨rfl,h10, ?_,xu.out⟩
     rw[HE2.out,Ti.out _ T1.out.cf,Tj.out _ T9.out.cf]
     exact C10.out
   ·have hon: ¬s1.jY=true:=by unfold af.jY;simp[p0]
    have HE2:Hid (s.qc words=(s1.uo words).uq words):=Lib.hid (by rw[xR.out];unfold af.rZ;rw[if_neg hon])
    have p1:(s1.phase==0)=false:=by simpa using p0
    clear hon p0
    have X1:=HX.out _ _ _ U1.out.drew'.au C1.out T1.out.cf
    have hB0:w1.drew.cell? ⟨pc,20,none⟩=some (.int .i64 s1.phase)/\w1.drew.cell? ⟨pc,15,none⟩=some (.pointer (some ⟨L.po,0,none⟩))/\w1.drew.cell? ⟨pc,0,none⟩=some (.int .i64 c.handles)/\w1.drew.cell? ⟨pc,1,none⟩=some (.int .i64 c.aU)/\w1.drew.cell? ⟨pc,2,none⟩=some (.int .i64 c.pages)/\w1.drew.cell? ⟨pc,3,none⟩=some (.int .i64 c.page)/\w1.drew.cell? ⟨pc,4,none⟩=some (.int .i64 c.card)/\w1.drew.cell? ⟨pc,5,none⟩=some (.int .i64 c.buffer)/\w1.drew.cell? ⟨pc,6,none⟩=some (.int .i64 c.stack)/\w1.drew.cell? ⟨pc,7,none⟩=some (.int .i64 c.d_)/\w1.drew.cell? ⟨pc,8,none⟩=some (.int .i64 c.largest)/\w1.drew.cell? ⟨pc,9,none⟩=some (.int .i64 c.minor)/\w1.drew.cell? ⟨pc,10,none⟩=some (.int .i64 c.major)/\w1.drew.cell? ⟨pc,11,none⟩=some (.int .i64 c.dH)/\w1.drew.cell? ⟨pc,12,none⟩=some (.int .i64 c.dm):=⟨X1.2.ph,X1.1.po,X1.1.c0,X1.1.c1,X1.1.c2,X1.1.c3,X1.1.c4,X1.1.c5,X1.1.c6,X1.1.c7,X1.1.c8,X1.1.c9,X1.1.c10,X1.1.c11,X1.1.c12⟩
    clear X1
    refine wp_region_held_drew (S:=fun w'=>w'.cell? ⟨pc,20,none⟩=some (.int .i64 s1.phase)/\w'.cell? ⟨pc,15,none⟩=some (.pointer (some ⟨L.po,0,none⟩))/\w'.cell? ⟨pc,0,none⟩=some (.int .i64 c.handles)/\w'.cell? ⟨pc,1,none⟩=some (.int .i64 c.aU)/\w'.cell? ⟨pc,2,none⟩=some (.int .i64 c.pages)/\w'.cell? ⟨pc,3,none⟩=some (.int .i64 c.page)/\w'.cell? ⟨pc,4,none⟩=some (.int .i64 c.card)/\w'.cell? ⟨pc,5,none⟩=some (.int .i64 c.buffer)/\w'.cell? ⟨pc,6,none⟩=some (.int .i64 c.stack)/\w'.cell? ⟨pc,7,none⟩=some (.int .i64 c.d_)/\w'.cell? ⟨pc,8,none⟩=some (.int .i64 c.largest)/\w'.cell? ⟨pc,9,none⟩=some (.int .i64 c.minor)/\w'.cell? ⟨pc,10,none⟩=some (.int .i64 c.major)/\w'.cell? ⟨pc,11,none⟩=some (.int .i64 c.dH)/\w'.cell? ⟨pc,12,none⟩=some (.int .i64 c.dm)) (by kernel_rfl) (hB0) (fun hHeld=> ?_)
    refine tk 0 ?_
    refine tk 1 ?_
    refine tk 2 ?_
    refine tk 3 ?_
    refine tk 4 ?_
    refine tk 5 ?_
    try simp only[Act.put,List.setIfInBounds_toArray,List.set_cons_zero,List.set_cons_succ]
    refine wpAnyH_take (i:=6) (v:=undef) rfl (by kernel_rfl) (by kernel_rfl) (by kernel_rfl) (fun _ _ _ h=>h) (Or.inr ⟨by kernel_rfl,rfl⟩) (by assumption) ?_
    try simp only[Act.put,List.setIfInBounds_toArray,List.set_cons_zero,List.set_cons_succ]
    refine wpAnyH_take (i:=7) (v:=undef) rfl (by kernel_rfl) (by kernel_rfl) (by kernel_rfl) (fun _ _ _ h=>h) (Or.inr ⟨by kernel_rfl,rfl⟩) (by assumption) ?_
    try simp only[Act.put,List.setIfInBounds_toArray,List.set_cons_zero,List.set_cons_succ]
    refine wpAnyH_take (i:=8) (v:=undef) rfl (by kernel_rfl) (by kernel_rfl) (by kernel_rfl) (fun _ _ _ h=>h) (Or.inr ⟨by kernel_rfl,rfl⟩) (by assumption) ?_
    try simp only[Act.put,List.setIfInBounds_toArray,List.set_cons_zero,List.set_cons_succ]
    refine wpAnyH_take (i:=9) (v:=undef) rfl (by kernel_rfl) (by kernel_rfl) (by kernel_rfl) (fun _ _ _ h=>h) (Or.inr ⟨by kernel_rfl,rfl⟩) (by assumption) ?_
    try simp only[Act.put,List.setIfInBounds_toArray,List.set_cons_zero,List.set_cons_succ]
    refine wpAnyH_take (i:=10) (v:=undef) rfl (by kernel_rfl) (by kernel_rfl) (by kernel_rfl) (fun _ _ _ h=>h) (Or.inr ⟨by kernel_rfl,rfl⟩) (by assumption) ?_
    try simp only[Act.put,List.setIfInBounds_toArray,List.set_cons_zero,List.set_cons_succ]
    refine wpAnyH_take (i:=11) (v:=undef) rfl (by kernel_rfl) (by kernel_rfl) (by kernel_rfl) (fun _ _ _ h=>h) (Or.inr ⟨by kernel_rfl,rfl⟩) (by assumption) ?_
    try simp only[Act.put,List.setIfInBounds_toArray,List.set_cons_zero,List.set_cons_succ]
    refine wpAnyH_take (i:=12) (v:=undef) rfl (by kernel_rfl) (by kernel_rfl) (by kernel_rfl) (fun _ _ _ h=>h) (Or.inr ⟨by kernel_rfl,rfl⟩) (by assumption) ?_
    try simp only[Act.put,List.setIfInBounds_toArray,List.set_cons_zero,List.set_cons_succ]
    refine wpAnyH_take (i:=13) (v:=undef) rfl (by kernel_rfl) (by kernel_rfl) (by kernel_rfl) (fun _ _ _ h=>h) (Or.inr ⟨by kernel_rfl,rfl⟩) (by assumption) ?_
    try simp only[Act.put,List.setIfInBounds_toArray,List.set_cons_zero,List.set_cons_succ]
    refine wpAnyH_take (i:=14) (v:=undef) rfl (by kernel_rfl) (by kernel_rfl) (by kernel_rfl) (fun _ _ _ h=>h) (Or.inr ⟨by kernel_rfl,rfl⟩) (by assumption) ?_
    try simp only[Act.put,List.setIfInBounds_toArray,List.set_cons_zero,List.set_cons_succ]
    refine wpAnyH_take (i:=15) (v:=undef) rfl (by kernel_rfl) (by kernel_rfl) (by kernel_rfl) (fun _ _ _ h=>h) (Or.inr ⟨by kernel_rfl,rfl⟩) (by assumption) ?_
    try simp only[Act.put,List.setIfInBounds_toArray,List.set_cons_zero,List.set_cons_succ]
    refine tk 16 ?_
    try simp only[Act.put,List.setIfInBounds_toArray,List.set_cons_zero,List.set_cons_succ]
    refine wpAnyH_done (by kernel_rfl) ?_ _
    go_simp
    have U6:=Lib.hid U1.out.drew'
    have x9:=(HX.out _ _ _ U6.out.au C1.out T1.out.cf).1.c9
    go_wp2_with(first
     | (go_at_call 137;refine Calls.mono (gW _ _ _) ?_;rintro e w8 ⟨rfl,hw8⟩;obtain rfl:=hw8.symm;clear hw8)
     | (go_at_call 104;refine Calls.mono (Td.out _ _ _ _ U6.out.au C1.out T1.out (by have:=FY.out words c.minor;omega)) ?_;rintro e w9 ⟨rfl,h9,c9,u9⟩;have U9:=Lib.hid (U6.out.iL u9);have C9:=Lib.hid c9;have T9:=Lib.hid (T1.out.ja (iY words c.minor));have Oy:=(HX.out _ _ _ U9.out.au c9 T9.out.cf).1.c10;clear u9 c9)
     | (go_at_call 105;refine Calls.mono (Tf.out _ _ _ _ U9.out.au C9.out T9.out (by have:=FY.out words c.major;omega)) ?_;rintro e w10 ⟨rfl,h10,c10,u10⟩;have xu:=Lib.hid (U9.out.iL u10);have C10:=Lib.hid c10;clear u10 c10))
    go_end0
    refine⟨rfl,h10, ?_,xu.out⟩
    rw[HE2.out,Ti.out _ T1.out.cf,Tj.out _ T9.out.cf]
    exact C10.out
  ·have hon: ¬s.xk=true:=by unfold af.xk;rw[hcf];simp[ha]
   have HA:Hid (s.Ac=s):=Lib.hid (by unfold af.Ac;rw[if_neg hon])
   clear hon k21 X0 hcf hi hc T
   go_enter Tryz.func98,Tryz.ntmps98
   go_wp2
   refine wp_region_held_drew (S:=fun w'=>w'.cell? ⟨pc,21,none⟩=some (.bool false)/\w'.cell? ⟨pc,14,none⟩=some (.pointer (some ⟨L.py,0,none⟩))/\w'.cell? ⟨pc,0,none⟩=some (.int .i64 c.handles)/\w'.cell? ⟨pc,1,none⟩=some (.int .i64 c.aU)/\w'.cell? ⟨pc,2,none⟩=some (.int .i64 c.pages)/\w'.cell? ⟨pc,3,none⟩=some (.int .i64 c.page)/\w'.cell? ⟨pc,4,none⟩=some (.int .i64 c.card)/\w'.cell? ⟨pc,5,none⟩=some (.int .i64 c.buffer)/\w'.cell? ⟨pc,6,none⟩=some (.int .i64 c.stack)/\w'.cell? ⟨pc,7,none⟩=some (.int .i64 c.d_)/\w'.cell? ⟨pc,8,none⟩=some (.int .i64 c.largest)/\w'.cell? ⟨pc,9,none⟩=some (.int .i64 c.minor)/\w'.cell? ⟨pc,10,none⟩=some (.int .i64 c.major)/\w'.cell? ⟨pc,11,none⟩=some (.int .i64 c.dH)/\w'.cell? ⟨pc,12,none⟩=some (.int .i64 c.dm)) (by kernel_rfl) (hA0) (fun hHeld=> ?_)
   refine tk 0 ?_
   refine tk 1 ?_
   refine tk 2 ?_
   refine tk 3 ?_
   refine tk 4 ?_
   refine tk 5 ?_
   refine tk 6 ?_
   refine tk 7 ?_
   refine tk 8 ?_
   refine tk 9 ?_
   refine tk 10 ?_
   refine tk 11 ?_
   refine tk 12 ?_
   refine tk 13 ?_
   try simp only[Act.put,List.setIfInBounds_toArray,List.set_cons_zero,List.set_cons_succ]
   refine wpAnyH_ready (rs:=[14]) (by kernel_rfl) (by simp) ?_
   refine AllReadyH.cons (o:=_) rfl (fun K hK=> ?_) AllReadyH.nil
   go_simp
   go_wp2_with(go_at_call 120;refine Calls.mono (TM.out _ _ _ HU.out.drew'.au HC.out) ?_;rintro e w3 ⟨rfl,u3⟩;have U3:=Lib.hid (HU.out.drew'.iL u3);have X3:=HX.out _ _ _ U3.out.au HC.out HT.out.cf;have v3:=HV.out _ _ _ U3.out.au HC.out;rw[hmv]at v3)
   try go_wp2_with fail
   refine hK.out _ _ (⟨v3,X3.1.py,X3.1.c0,X3.1.c1,X3.1.c2,X3.1.c3,X3.1.c4,X3.1.c5,X3.1.c6,X3.1.c7,X3.1.c8,X3.1.c9,X3.1.c10,X3.1.c11,X3.1.c12⟩) (fun hHeld=> ?_)
   clear hK K
   try simp only[Act.put,List.setIfInBounds_toArray,List.set_cons_zero,List.set_cons_succ]
   refine wpAnyH_ready (rs:=[15]) (by kernel_rfl) (by simp) ?_
   refine AllReadyH.cons (o:=_) rfl (fun K hK=> ?_) AllReadyH.nil
   go_simp
   simp only[aN]at XP;go_wp2_with(go_at_call 135;refine Calls.mono (XP.out _ _) ?_;rintro e w1 ⟨rfl,u4⟩;have U4:=Lib.hid (U3.out.dK u4);have X4:=HX.out _ _ _ U4.out.au HC.out HT.out.cf;have v4:=HV.out _ _ _ U4.out.au HC.out;rw[hmv]at v4)
   try go_wp2_with fail
   refine hK.out _ _ (⟨v4,X4.1.py,X4.1.c0,X4.1.c1,X4.1.c2,X4.1.c3,X4.1.c4,X4.1.c5,X4.1.c6,X4.1.c7,X4.1.c8,X4.1.c9,X4.1.c10,X4.1.c11,X4.1.c12⟩) (fun hHeld=> ?_)
   clear hK K
   try simp only[Act.put,List.setIfInBounds_toArray,List.set_cons_zero,List.set_cons_succ]
   refine tk 16 ?_
   try simp only[Act.put,List.setIfInBounds_toArray,List.set_cons_zero,List.set_cons_succ]
   refine wpAnyH_done (by kernel_rfl) ?_ _
   go_simp
   have T1:=HT
   have C1:=HC
   have xR:Hid (s.qc words=(s.rZ.uo words).uq words):=Lib.hid (by rw[HE.out,HA.out])
   have U1:=U4
   obtain⟨s1,hs1⟩: ∃s1,s1=s:=⟨_,rfl⟩
   have Qv:Hid (s.qc words=(s1.rZ.uo words).uq words):=by rw[hs1];exact xR
   clear xR
   have xR:=Qv
   rw[<-hs1]at C1 T1
   clear hs1 U3 X3 X4 v3 v4 hA0 Qv
   go_wp2
   obtain⟨k20,_⟩:(w1.cell? ⟨pc,20,none⟩=some (.int .i64 s1.phase))/\True:=⟨(HX.out _ _ _ U1.out.au C1.out T1.out.cf).2.ph,trivial⟩
   by_cases p0:s1.phase=0
   ·have X1:=HX.out _ _ _ U1.out.drew'.au C1.out T1.out.cf
    have hB0:w1.drew.cell? ⟨pc,20,none⟩=some (.int .i64 0)/\w1.drew.cell? ⟨pc,15,none⟩=some (.pointer (some ⟨L.po,0,none⟩))/\w1.drew.cell? ⟨pc,0,none⟩=some (.int .i64 c.handles)/\w1.drew.cell? ⟨pc,1,none⟩=some (.int .i64 c.aU)/\w1.drew.cell? ⟨pc,2,none⟩=some (.int .i64 c.pages)/\w1.drew.cell? ⟨pc,3,none⟩=some (.int .i64 c.page)/\w1.drew.cell? ⟨pc,4,none⟩=some (.int .i64 c.card)/\w1.drew.cell? ⟨pc,5,none⟩=some (.int .i64 c.buffer)/\w1.drew.cell? ⟨pc,6,none⟩=some (.int .i64 c.stack)/\w1.drew.cell? ⟨pc,7,none⟩=some (.int .i64 c.d_)/\w1.drew.cell? ⟨pc,8,none⟩=some (.int .i64 c.largest)/\w1.drew.cell? ⟨pc,9,none⟩=some (.int .i64 c.minor)/\w1.drew.cell? ⟨pc,10,none⟩=some (.int .i64 c.major)/\w1.drew.cell? ⟨pc,11,none⟩=some (.int .i64 c.dH)/\w1.drew.cell? ⟨pc,12,none⟩=some (.int .i64 c.dm):=⟨by have:=X1.2.ph;rw[p0]at this;exact this,X1.1.po,X1.1.c0,X1.1.c1,X1.1.c2,X1.1.c3,X1.1.c4,X1.1.c5,X1.1.c6,X1.1.c7,X1.1.c8,X1.1.c9,X1.1.c10,X1.1.c11,X1.1.c12⟩
    clear X1
    by_cases f0:(lF s1.o.pages:Int)<=c.dm
    ·have hon:s1.jY=true:=by unfold af.jY;rw[T1.out.cf];simp[p0,f0]
     have HE2:Hid (s.qc words=(s1.dF.uo words).uq words):=Lib.hid (by rw[xR.out];unfold af.rZ;rw[if_pos hon])
     clear hon k20
     refine wp_region_held_drew (S:=fun w'=>w'.cell? ⟨pc,20,none⟩=some (.int .i64 0)/\w'.cell? ⟨pc,15,none⟩=some (.pointer (some ⟨L.po,0,none⟩))/\w'.cell? ⟨pc,0,none⟩=some (.int .i64 c.handles)/\w'.cell? ⟨pc,1,none⟩=some (.int .i64 c.aU)/\w'.cell? ⟨pc,2,none⟩=some (.int .i64 c.pages)/\w'.cell? ⟨pc,3,none⟩=some (.int .i64 c.page)/\w'.cell? ⟨pc,4,none⟩=some (.int .i64 c.card)/\w'.cell? ⟨pc,5,none⟩=some (.int .i64 c.buffer)/\w'.cell? ⟨pc,6,none⟩=some (.int .i64 c.stack)/\w'.cell? ⟨pc,7,none⟩=some (.int .i64 c.d_)/\w'.cell? ⟨pc,8,none⟩=some (.int .i64 c.largest)/\w'.cell? ⟨pc,9,none⟩=some (.int .i64 c.minor)/\w'.cell? ⟨pc,10,none⟩=some (.int .i64 c.major)/\w'.cell? ⟨pc,11,none⟩=some (.int .i64 c.dH)/\w'.cell? ⟨pc,12,none⟩=some (.int .i64 c.dm)) (by kernel_rfl) (hB0) (fun hHeld=> ?_)
     refine tk 0 ?_
     refine tk 1 ?_
     refine tk 2 ?_
     refine tk 3 ?_
     refine tk 4 ?_
     refine tk 5 ?_
     refine tk 6 ?_
     refine tk 7 ?_
     refine tk 8 ?_
     refine tk 9 ?_
     refine tk 10 ?_
     refine tk 11 ?_
     refine tk 12 ?_
     refine tk 13 ?_
     try simp only[Act.put,List.setIfInBounds_toArray,List.set_cons_zero,List.set_cons_succ]
     refine wpAnyH_ready (rs:=[14]) (by kernel_rfl) (by simp) ?_
     refine AllReadyH.cons (o:=_) rfl (fun K hK=> ?_) AllReadyH.nil
     go_simp
     go_wp2_with(go_at_call 33;refine Calls.mono (EY.out _ _ _ U1.out.drew'.au C1.out) ?_;rintro e w5 ⟨rfl,hw5⟩;obtain rfl:=hw5.symm;clear hw5)
     try go_wp2_with fail
     refine hK.out _ _ (hB0) (fun hHeld=> ?_)
     clear hK K
     try simp only[Act.put,List.setIfInBounds_toArray,List.set_cons_zero,List.set_cons_succ]
     refine wpAnyH_ready (rs:=[15]) (by kernel_rfl) (by simp) ?_
     refine AllReadyH.cons (o:=_) rfl (fun K hK=> ?_) AllReadyH.nil
     go_simp
     simp only[aN]at OA;go_wp2_with(go_at_call 136;refine Calls.mono (OA.out _ _) ?_;rintro e w6 ⟨rfl,u6⟩;have U6:=Lib.hid (U1.out.drew'.dK u6);have X2:=HX.out _ _ _ U6.out.au C1.out T1.out.cf)
     try go_wp2_with fail
     refine hK.out _ _ (⟨by have:=X2.2.ph;rw[p0]at this;exact this,X2.1.po,X2.1.c0,X2.1.c1,X2.1.c2,X2.1.c3,X2.1.c4,X2.1.c5,X2.1.c6,X2.1.c7,X2.1.c8,X2.1.c9,X2.1.c10,X2.1.c11,X2.1.c12⟩) (fun hHeld=> ?_)
     clear hK K
     try simp only[Act.put,List.setIfInBounds_toArray,List.set_cons_zero,List.set_cons_succ]
     refine tk 16 ?_
     try simp only[Act.put,List.setIfInBounds_toArray,List.set_cons_zero,List.set_cons_succ]
     refine wpAnyH_done (by kernel_rfl) ?_ _
     go_simp
     go_wp2_with(go_at_call 72;refine Calls.mono (Zh.out _ _ _ U6.out.au C1.out T1.out) ?_;rintro e w7 ⟨rfl,h7,c7,u7⟩;have U7:=Lib.hid (U6.out.iL u7);have C7:=Lib.hid c7;have T7:=Lib.hid T1.out.dF;have x9:=(HX.out _ _ _ U7.out.au c7 T7.out.cf).1.c9;clear u7 c7)
     go_wp2_with(first
      | (go_at_call 137;refine Calls.mono (gW _ _ _) ?_;rintro e w8 ⟨rfl,hw8⟩;obtain rfl:=hw8.symm;clear hw8)
      | (go_at_call 104;refine Calls.mono (Td.out _ _ _ _ U7.out.au C7.out T7.out (by have:=FY.out words c.minor;omega)) ?_;rintro e w9 ⟨rfl,h9,c9,u9⟩;have U9:=Lib.hid (U7.out.iL u9);have C9:=Lib.hid c9;have T9:=Lib.hid (T7.out.ja (iY words c.minor));have Oy:=(HX.out _ _ _ U9.out.au c9 T9.out.cf).1.c10;clear u9 c9)
      | (go_at_call 105;refine Calls.mono (Tf.out _ _ _ _ U9.out.au C9.out T9.out (by have:=FY.out words c.major;omega)) ?_;rintro e w10 ⟨rfl,h10,c10,u10⟩;have xu:=Lib.hid (U9.out.iL u10);have C10:=Lib.hid c10;clear u10 c10))
     go_end0
     refine⟨rfl,h10, ?_,xu.out⟩
     rw[HE2.out,Ti.out _ T7.out.cf,Tj.out _ T9.out.cf]
     exact C10.out
    ·have hon: ¬s1.jY=true:=by unfold af.jY;rw[T1.out.cf];simp[f0]
     have HE2:Hid (s.qc words=(s1.uo words).uq words):=Lib.hid (by rw[xR.out];unfold af.rZ;rw[if_neg hon])
     clear hon k20
     refine wp_region_held_drew (S:=fun w'=>w'.cell? ⟨pc,20,none⟩=some (.int .i64 0)/\w'.cell? ⟨pc,15,none⟩=some (.pointer (some ⟨L.po,0,none⟩))/\w'.cell? ⟨pc,0,none⟩=some (.int .i64 c.handles)/\w'.cell? ⟨pc,1,none⟩=some (.int .i64 c.aU)/\w'.cell? ⟨pc,2,none⟩=some (.int .i64 c.pages)/\w'.cell? ⟨pc,3,none⟩=some (.int .i64 c.page)/\w'.cell? ⟨pc,4,none⟩=some (.int .i64 c.card)/\w'.cell? ⟨pc,5,none⟩=some (.int .i64 c.buffer)/\w'.cell? ⟨pc,6,none⟩=some (.int .i64 c.stack)/\w'.cell? ⟨pc,7,none⟩=some (.int .i64 c.d_)/\w'.cell? ⟨pc,8,none⟩=some (.int .i64 c.largest)/\w'.cell? ⟨pc,9,none⟩=some (.int .i64 c.minor)/\w'.cell? ⟨pc,10,none⟩=some (.int .i64 c.major)/\w'.cell? ⟨pc,11,none⟩=some (.int .i64 c.dH)/\w'.cell? ⟨pc,12,none⟩=some (.int .i64 c.dm)) (by kernel_rfl) (hB0) (fun hHeld=> ?_)
     refine tk 0 ?_
     refine tk 1 ?_
     refine tk 2 ?_
     refine tk 3 ?_
     refine tk 4 ?_
     refine tk 5 ?_
     refine tk 6 ?_
     refine tk 7 ?_
     refine tk 8 ?_
     refine tk 9 ?_
     refine tk 10 ?_
     refine tk 11 ?_
     refine tk 12 ?_
     refine tk 13 ?_
     try simp only[Act.put,List.setIfInBounds_toArray,List.set_cons_zero,List.set_cons_succ]
     refine wpAnyH_ready (rs:=[14]) (by kernel_rfl) (by simp) ?_
     refine AllReadyH.cons (o:=_) rfl (fun K hK=> ?_) AllReadyH.nil
     go_simp
     go_wp2_with(go_at_call 33;refine Calls.mono (EY.out _ _ _ U1.out.drew'.au C1.out) ?_;rintro e w5 ⟨rfl,hw5⟩;obtain rfl:=hw5.symm;clear hw5)
     try go_wp2_with fail
     refine hK.out _ _ (hB0) (fun hHeld=> ?_)
     clear hK K
     try simp only[Act.put,List.setIfInBounds_toArray,List.set_cons_zero,List.set_cons_succ]
     refine wpAnyH_ready (rs:=[15]) (by kernel_rfl) (by simp) ?_
     refine AllReadyH.cons (o:=_) rfl (fun K hK=> ?_) AllReadyH.nil
     go_simp
     simp only[aN]at OA;go_wp2_with(go_at_call 136;refine Calls.mono (OA.out _ _) ?_;rintro e w6 ⟨rfl,u6⟩;have U6:=Lib.hid (U1.out.drew'.dK u6);have X2:=HX.out _ _ _ U6.out.au C1.out T1.out.cf)
     try go_wp2_with fail
     refine hK.out _ _ (⟨by have:=X2.2.ph;rw[p0]at this;exact this,X2.1.po,X2.1.c0,X2.1.c1,X2.1.c2,X2.1.c3,X2.1.c4,X2.1.c5,X2.1.c6,X2.1.c7,X2.1.c8,X2.1.c9,X2.1.c10,X2.1.c11,X2.1.c12⟩) (fun hHeld=> ?_)
     clear hK K
     try simp only[Act.put,List.setIfInBounds_toArray,List.set_cons_zero,List.set_cons_succ]
     refine tk 16 ?_
     try simp only[Act.put,List.setIfInBounds_toArray,List.set_cons_zero,List.set_cons_succ]
     refine wpAnyH_done (by kernel_rfl) ?_ _
     go_simp
     have x9:=(HX.out _ _ _ U6.out.au C1.out T1.out.cf).1.c9
     go_wp2_with(first
      | (go_at_call 137;refine Calls.mono (gW _ _ _) ?_;rintro e w8 ⟨rfl,hw8⟩;obtain rfl:=hw8.symm;clear hw8)
      | (go_at_call 104;refine Calls.mono (Td.out _ _ _ _ U6.out.au C1.out T1.out (by have:=FY.out words c.minor;omega)) ?_;rintro e w9 ⟨rfl,h9,c9,u9⟩;have U9:=Lib.hid (U6.out.iL u9);have C9:=Lib.hid c9;have T9:=Lib.hid (T1.out.ja (iY words c.minor));have Oy:=(HX.out _ _ _ U9.out.au c9 T9.out.cf).1.c10;clear u9 c9)
      | (go_at_call 105;refine Calls.mono (Tf.out _ _ _ _ U9.out.au C9.out T9.out (by have:=FY.out words c.major;omega)) ?_;rintro e w10 ⟨rfl,h10,c10,u10⟩;have xu:=Lib.hid (U9.out.iL u10);have C10:=Lib.hid c10;clear u10 c10))
     go_end0
     refine⟨rfl,h10, ?_,xu.out⟩
     rw[HE2.out,Ti.out _ T1.out.cf,Tj.out _ T9.out.cf]
     exact C10.out
   ·have hon: ¬s1.jY=true:=by unfold af.jY;simp[p0]
    have HE2:Hid (s.qc words=(s1.uo words).uq words):=Lib.hid (by rw[xR.out];unfold af.rZ;rw[if_neg hon])
    have p1:(s1.phase==0)=false:=by simpa using p0
    clear hon p0
    have X1:=HX.out _ _ _ U1.out.drew'.au C1.out T1.out.cf
    have hB0:w1.drew.cell? ⟨pc,20,none⟩=some (.int .i64 s1.phase)/\w1.drew.cell? ⟨pc,15,none⟩=some (.pointer (some ⟨L.po,0,none⟩))/\w1.drew.cell? ⟨pc,0,none⟩=some (.int .i64 c.handles)/\w1.drew.cell? ⟨pc,1,none⟩=some (.int .i64 c.aU)/\w1.drew.cell? ⟨pc,2,none⟩=some (.int .i64 c.pages)/\w1.drew.cell? ⟨pc,3,none⟩=some (.int .i64 c.page)/\w1.drew.cell? ⟨pc,4,none⟩=some (.int .i64 c.card)/\w1.drew.cell? ⟨pc,5,none⟩=some (.int .i64 c.buffer)/\w1.drew.cell? ⟨pc,6,none⟩=some (.int .i64 c.stack)/\w1.drew.cell? ⟨pc,7,none⟩=some (.int .i64 c.d_)/\w1.drew.cell? ⟨pc,8,none⟩=some (.int .i64 c.largest)/\w1.drew.cell? ⟨pc,9,none⟩=some (.int .i64 c.minor)/\w1.drew.cell? ⟨pc,10,none⟩=some (.int .i64 c.major)/\w1.drew.cell? ⟨pc,11,none⟩=some (.int .i64 c.dH)/\w1.drew.cell? ⟨pc,12,none⟩=some (.int .i64 c.dm):=⟨X1.2.ph,X1.1.po,X1.1.c0,X1.1.c1,X1.1.c2,X1.1.c3,X1.1.c4,X1.1.c5,X1.1.c6,X1.1.c7,X1.1.c8,X1.1.c9,X1.1.c10,X1.1.c11,X1.1.c12⟩
    clear X1
    refine wp_region_held_drew (S:=fun w'=>w'.cell? ⟨pc,20,none⟩=some (.int .i64 s1.phase)/\w'.cell? ⟨pc,15,none⟩=some (.pointer (some ⟨L.po,0,none⟩))/\w'.cell? ⟨pc,0,none⟩=some (.int .i64 c.handles)/\w'.cell? ⟨pc,1,none⟩=some (.int .i64 c.aU)/\w'.cell? ⟨pc,2,none⟩=some (.int .i64 c.pages)/\w'.cell? ⟨pc,3,none⟩=some (.int .i64 c.page)/\w'.cell? ⟨pc,4,none⟩=some (.int .i64 c.card)/\w'.cell? ⟨pc,5,none⟩=some (.int .i64 c.buffer)/\w'.cell? ⟨pc,6,none⟩=some (.int .i64 c.stack)/\w'.cell? ⟨pc,7,none⟩=some (.int .i64 c.d_)/\w'.cell? ⟨pc,8,none⟩=some (.int .i64 c.largest)/\w'.cell? ⟨pc,9,none⟩=some (.int .i64 c.minor)/\w'.cell? ⟨pc,10,none⟩=some (.int .i64 c.major)/\w'.cell? ⟨pc,11,none⟩=some (.int .i64 c.dH)/\w'.cell? ⟨pc,12,none⟩=some (.int .i64 c.dm)) (by kernel_rfl) (hB0) (fun hHeld=> ?_)
    refine tk 0 ?_
    refine tk 1 ?_
    refine tk 2 ?_
    refine tk 3 ?_
    refine tk 4 ?_
    refine tk 5 ?_
    try simp only[Act.put,List.setIfInBounds_toArray,List.set_cons_zero,List.set_cons_succ]
    refine wpAnyH_take (i:=6) (v:=undef) rfl (by kernel_rfl) (by kernel_rfl) (by kernel_rfl) (fun _ _ _ h=>h) (Or.inr ⟨by kernel_rfl,rfl⟩) (by assumption) ?_
    try simp only[Act.put,List.setIfInBounds_toArray,List.set_cons_zero,List.set_cons_succ]
    refine wpAnyH_take (i:=7) (v:=undef) rfl (by kernel_rfl) (by kernel_rfl) (by kernel_rfl) (fun _ _ _ h=>h) (Or.inr ⟨by kernel_rfl,rfl⟩) (by assumption) ?_
    try simp only[Act.put,List.setIfInBounds_toArray,List.set_cons_zero,List.set_cons_succ]
    refine wpAnyH_take (i:=8) (v:=undef) rfl (by kernel_rfl) (by kernel_rfl) (by kernel_rfl) (fun _ _ _ h=>h) (Or.inr ⟨by kernel_rfl,rfl⟩) (by assumption) ?_
    try simp only[Act.put,List.setIfInBounds_toArray,List.set_cons_zero,List.set_cons_succ]
    refine wpAnyH_take (i:=9) (v:=undef) rfl (by kernel_rfl) (by kernel_rfl) (by kernel_rfl) (fun _ _ _ h=>h) (Or.inr ⟨by kernel_rfl,rfl⟩) (by assumption) ?_
    try simp only[Act.put,List.setIfInBounds_toArray,List.set_cons_zero,List.set_cons_succ]
    refine wpAnyH_take (i:=10) (v:=undef) rfl (by kernel_rfl) (by kernel_rfl) (by kernel_rfl) (fun _ _ _ h=>h) (Or.inr ⟨by kernel_rfl,rfl⟩) (by assumption) ?_
    try simp only[Act.put,List.setIfInBounds_toArray,List.set_cons_zero,List.set_cons_succ]
    refine wpAnyH_take (i:=11) (v:=undef) rfl (by kernel_rfl) (by kernel_rfl) (by kernel_rfl) (fun _ _ _ h=>h) (Or.inr ⟨by kernel_rfl,rfl⟩) (by assumption) ?_
    try simp only[Act.put,List.setIfInBounds_toArray,List.set_cons_zero,List.set_cons_succ]
    refine wpAnyH_take (i:=12) (v:=undef) rfl (by kernel_rfl) (by kernel_rfl) (by kernel_rfl) (fun _ _ _ h=>h) (Or.inr ⟨by kernel_rfl,rfl⟩) (by assumption) ?_
    try simp only[Act.put,List.setIfInBounds_toArray,List.set_cons_zero,List.set_cons_succ]
    refine wpAnyH_take (i:=13) (v:=undef) rfl (by kernel_rfl) (by kernel_rfl) (by kernel_rfl) (fun _ _ _ h=>h) (Or.inr ⟨by kernel_rfl,rfl⟩) (by assumption) ?_
    try simp only[Act.put,List.setIfInBounds_toArray,List.set_cons_zero,List.set_cons_succ]
    refine wpAnyH_take (i:=14) (v:=undef) rfl (by kernel_rfl) (by kernel_rfl) (by kernel_rfl) (fun _ _ _ h=>h) (Or.inr ⟨by kernel_rfl,rfl⟩) (by assumption) ?_
    try simp only[Act.put,List.setIfInBounds_toArray,List.set_cons_zero,List.set_cons_succ]
    refine wpAnyH_take (i:=15) (v:=undef) rfl (by kernel_rfl) (by kernel_rfl) (by kernel_rfl) (fun _ _ _ h=>h) (Or.inr ⟨by kernel_rfl,rfl⟩) (by assumption) ?_
    try simp only[Act.put,List.setIfInBounds_toArray,List.set_cons_zero,List.set_cons_succ]
    refine tk 16 ?_
    try simp only[Act.put,List.setIfInBounds_toArray,List.set_cons_zero,List.set_cons_succ]
    refine wpAnyH_done (by kernel_rfl) ?_ _
    go_simp
    have U6:=Lib.hid U1.out.drew'
    have x9:=(HX.out _ _ _ U6.out.au C1.out T1.out.cf).1.c9
    go_wp2_with(first
     | (go_at_call 137;refine Calls.mono (gW _ _ _) ?_;rintro e w8 ⟨rfl,hw8⟩;obtain rfl:=hw8.symm;clear hw8)
     | (go_at_call 104;refine Calls.mono (Td.out _ _ _ _ U6.out.au C1.out T1.out (by have:=FY.out words c.minor;omega)) ?_;rintro e w9 ⟨rfl,h9,c9,u9⟩;have U9:=Lib.hid (U6.out.iL u9);have C9:=Lib.hid c9;have T9:=Lib.hid (T1.out.ja (iY words c.minor));have Oy:=(HX.out _ _ _ U9.out.au c9 T9.out.cf).1.c10;clear u9 c9)
     | (go_at_call 105;refine Calls.mono (Tf.out _ _ _ _ U9.out.au C9.out T9.out (by have:=FY.out words c.major;omega)) ?_;rintro e w10 ⟨rfl,h10,c10,u10⟩;have xu:=Lib.hid (U9.out.iL u10);have C10:=Lib.hid c10;clear u10 c10))
    go_end0
    refine⟨rfl,h10, ?_,xu.out⟩
    rw[HE2.out,Ti.out _ T1.out.cf,Tj.out _ T9.out.cf]
    exact C10.out
 ·have hA0:w.drew.cell? ⟨pc,21,none⟩=some (.bool true)/\w.drew.cell? ⟨pc,14,none⟩=some (.pointer (some ⟨L.py,0,none⟩))/\w.drew.cell? ⟨pc,0,none⟩=some (.int .i64 c.handles)/\w.drew.cell? ⟨pc,1,none⟩=some (.int .i64 c.aU)/\w.drew.cell? ⟨pc,2,none⟩=some (.int .i64 c.pages)/\w.drew.cell? ⟨pc,3,none⟩=some (.int .i64 c.page)/\w.drew.cell? ⟨pc,4,none⟩=some (.int .i64 c.card)/\w.drew.cell? ⟨pc,5,none⟩=some (.int .i64 c.buffer)/\w.drew.cell? ⟨pc,6,none⟩=some (.int .i64 c.stack)/\w.drew.cell? ⟨pc,7,none⟩=some (.int .i64 c.d_)/\w.drew.cell? ⟨pc,8,none⟩=some (.int .i64 c.largest)/\w.drew.cell? ⟨pc,9,none⟩=some (.int .i64 c.minor)/\w.drew.cell? ⟨pc,10,none⟩=some (.int .i64 c.major)/\w.drew.cell? ⟨pc,11,none⟩=some (.int .i64 c.dH)/\w.drew.cell? ⟨pc,12,none⟩=some (.int .i64 c.dm):=⟨by rw[hmv]at k21;exact k21,X0.1.py,X0.1.c0,X0.1.c1,X0.1.c2,X0.1.c3,X0.1.c4,X0.1.c5,X0.1.c6,X0.1.c7,X0.1.c8,X0.1.c9,X0.1.c10,X0.1.c11,X0.1.c12⟩
  have hon: ¬s.xk=true:=by unfold af.xk;rw[hmv];simp
  have HA:Hid (s.Ac=s):=Lib.hid (by unfold af.Ac;rw[if_neg hon])
  clear hon k21 X0 hcf hi hc T
  go_enter Tryz.func98,Tryz.ntmps98
  go_wp2
  refine wp_region_held_drew (S:=fun w'=>w'.cell? ⟨pc,21,none⟩=some (.bool true)/\w'.cell? ⟨pc,14,none⟩=some (.pointer (some ⟨L.py,0,none⟩))/\w'.cell? ⟨pc,0,none⟩=some (.int .i64 c.handles)/\w'.cell? ⟨pc,1,none⟩=some (.int .i64 c.aU)/\w'.cell? ⟨pc,2,none⟩=some (.int .i64 c.pages)/\w'.cell? ⟨pc,3,none⟩=some (.int .i64 c.page)/\w'.cell? ⟨pc,4,none⟩=some (.int .i64 c.card)/\w'.cell? ⟨pc,5,none⟩=some (.int .i64 c.buffer)/\w'.cell? ⟨pc,6,none⟩=some (.int .i64 c.stack)/\w'.cell? ⟨pc,7,none⟩=some (.int .i64 c.d_)/\w'.cell? ⟨pc,8,none⟩=some (.int .i64 c.largest)/\w'.cell? ⟨pc,9,none⟩=some (.int .i64 c.minor)/\w'.cell? ⟨pc,10,none⟩=some (.int .i64 c.major)/\w'.cell? ⟨pc,11,none⟩=some (.int .i64 c.dH)/\w'.cell? ⟨pc,12,none⟩=some (.int .i64 c.dm)) (by kernel_rfl) (hA0) (fun hHeld=> ?_)
  refine tk 0 ?_
  refine tk 1 ?_
  refine tk 2 ?_
  refine tk 3 ?_
  refine tk 4 ?_
  refine tk 5 ?_
  try simp only[Act.put,List.setIfInBounds_toArray,List.set_cons_zero,List.set_cons_succ]
  refine wpAnyH_take (i:=6) (v:=undef) rfl (by kernel_rfl) (by kernel_rfl) (by kernel_rfl) (fun _ _ _ h=>h) (Or.inr ⟨by kernel_rfl,rfl⟩) (by assumption) ?_
  try simp only[Act.put,List.setIfInBounds_toArray,List.set_cons_zero,List.set_cons_succ]
  refine wpAnyH_take (i:=7) (v:=undef) rfl (by kernel_rfl) (by kernel_rfl) (by kernel_rfl) (fun _ _ _ h=>h) (Or.inr ⟨by kernel_rfl,rfl⟩) (by assumption) ?_
  try simp only[Act.put,List.setIfInBounds_toArray,List.set_cons_zero,List.set_cons_succ]
  refine wpAnyH_take (i:=8) (v:=undef) rfl (by kernel_rfl) (by kernel_rfl) (by kernel_rfl) (fun _ _ _ h=>h) (Or.inr ⟨by kernel_rfl,rfl⟩) (by assumption) ?_
  try simp only[Act.put,List.setIfInBounds_toArray,List.set_cons_zero,List.set_cons_succ]
  refine wpAnyH_take (i:=9) (v:=undef) rfl (by kernel_rfl) (by kernel_rfl) (by kernel_rfl) (fun _ _ _ h=>h) (Or.inr ⟨by kernel_rfl,rfl⟩) (by assumption) ?_
  try simp only[Act.put,List.setIfInBounds_toArray,List.set_cons_zero,List.set_cons_succ]
  refine wpAnyH_take (i:=10) (v:=undef) rfl (by kernel_rfl) (by kernel_rfl) (by kernel_rfl) (fun _ _ _ h=>h) (Or.inr ⟨by kernel_rfl,rfl⟩) (by assumption) ?_
  try simp only[Act.put,List.setIfInBounds_toArray,List.set_cons_zero,List.set_cons_succ]
  refine wpAnyH_take (i:=11) (v:=undef) rfl (by kernel_rfl) (by kernel_rfl) (by kernel_rfl) (fun _ _ _ h=>h) (Or.inr ⟨by kernel_rfl,rfl⟩) (by assumption) ?_
  try simp only[Act.put,List.setIfInBounds_toArray,List.set_cons_zero,List.set_cons_succ]
  refine wpAnyH_take (i:=12) (v:=undef) rfl (by kernel_rfl) (by kernel_rfl) (by kernel_rfl) (fun _ _ _ h=>h) (Or.inr ⟨by kernel_rfl,rfl⟩) (by assumption) ?_
  try simp only[Act.put,List.setIfInBounds_toArray,List.set_cons_zero,List.set_cons_succ]
  refine wpAnyH_take (i:=13) (v:=undef) rfl (by kernel_rfl) (by kernel_rfl) (by kernel_rfl) (fun _ _ _ h=>h) (Or.inr ⟨by kernel_rfl,rfl⟩) (by assumption) ?_
  try simp only[Act.put,List.setIfInBounds_toArray,List.set_cons_zero,List.set_cons_succ]
  refine wpAnyH_take (i:=14) (v:=undef) rfl (by kernel_rfl) (by kernel_rfl) (by kernel_rfl) (fun _ _ _ h=>h) (Or.inr ⟨by kernel_rfl,rfl⟩) (by assumption) ?_
  try simp only[Act.put,List.setIfInBounds_toArray,List.set_cons_zero,List.set_cons_succ]
  refine wpAnyH_take (i:=15) (v:=undef) rfl (by kernel_rfl) (by kernel_rfl) (by kernel_rfl) (fun _ _ _ h=>h) (Or.inr ⟨by kernel_rfl,rfl⟩) (by assumption) ?_
  try simp only[Act.put,List.setIfInBounds_toArray,List.set_cons_zero,List.set_cons_succ]
  refine tk 16 ?_
  try simp only[Act.put,List.setIfInBounds_toArray,List.set_cons_zero,List.set_cons_succ]
  refine wpAnyH_done (by kernel_rfl) ?_ _
  go_simp
  have UD:=Lib.hid HU.out.drew'
  have T1:=HT
  have C1:=HC
  have xR:Hid (s.qc words=(s.rZ.uo words).uq words):=Lib.hid (by rw[HE.out,HA.out])
  have U1:=UD
  obtain⟨s1,hs1⟩: ∃s1,s1=s:=⟨_,rfl⟩
  have Qv:Hid (s.qc words=(s1.rZ.uo words).uq words):=by rw[hs1];exact xR
  clear xR
  have xR:=Qv
  rw[<-hs1]at C1 T1
  clear hs1 Qv UD hA0
  generalize w.drew=w1 at*
  go_wp2
  obtain⟨k20,_⟩:(w1.cell? ⟨pc,20,none⟩=some (.int .i64 s1.phase))/\True:=⟨(HX.out _ _ _ U1.out.au C1.out T1.out.cf).2.ph,trivial⟩
  by_cases p0:s1.phase=0
  ·have X1:=HX.out _ _ _ U1.out.drew'.au C1.out T1.out.cf
   have hB0:w1.drew.cell? ⟨pc,20,none⟩=some (.int .i64 0)/\w1.drew.cell? ⟨pc,15,none⟩=some (.pointer (some ⟨L.po,0,none⟩))/\w1.drew.cell? ⟨pc,0,none⟩=some (.int .i64 c.handles)/\w1.drew.cell? ⟨pc,1,none⟩=some (.int .i64 c.aU)/\w1.drew.cell? ⟨pc,2,none⟩=some (.int .i64 c.pages)/\w1.drew.cell? ⟨pc,3,none⟩=some (.int .i64 c.page)/\w1.drew.cell? ⟨pc,4,none⟩=some (.int .i64 c.card)/\w1.drew.cell? ⟨pc,5,none⟩=some (.int .i64 c.buffer)/\w1.drew.cell? ⟨pc,6,none⟩=some (.int .i64 c.stack)/\w1.drew.cell? ⟨pc,7,none⟩=some (.int .i64 c.d_)/\w1.drew.cell? ⟨pc,8,none⟩=some (.int .i64 c.largest)/\w1.drew.cell? ⟨pc,9,none⟩=some (.int .i64 c.minor)/\w1.drew.cell? ⟨pc,10,none⟩=some (.int .i64 c.major)/\w1.drew.cell? ⟨pc,11,none⟩=some (.int .i64 c.dH)/\w1.drew.cell? ⟨pc,12,none⟩=some (.int .i64 c.dm):=⟨by have:=X1.2.ph;rw[p0]at this;exact this,X1.1.po,X1.1.c0,X1.1.c1,X1.1.c2,X1.1.c3,X1.1.c4,X1.1.c5,X1.1.c6,X1.1.c7,X1.1.c8,X1.1.c9,X1.1.c10,X1.1.c11,X1.1.c12⟩
   clear X1
   by_cases f0:(lF s1.o.pages:Int)<=c.dm
   ·have hon:s1.jY=true:=by unfold af.jY;rw[T1.out.cf];simp[p0,f0]
    have HE2:Hid (s.qc words=(s1.dF.uo words).uq words):=Lib.hid (by rw[xR.out];unfold af.rZ;rw[if_pos hon])
    clear hon k20
    refine wp_region_held_drew (S:=fun w'=>w'.cell? ⟨pc,20,none⟩=some (.int .i64 0)/\w'.cell? ⟨pc,15,none⟩=some (.pointer (some ⟨L.po,0,none⟩))/\w'.cell? ⟨pc,0,none⟩=some (.int .i64 c.handles)/\w'.cell? ⟨pc,1,none⟩=some (.int .i64 c.aU)/\w'.cell? ⟨pc,2,none⟩=some (.int .i64 c.pages)/\w'.cell? ⟨pc,3,none⟩=some (.int .i64 c.page)/\w'.cell? ⟨pc,4,none⟩=some (.int .i64 c.card)/\w'.cell? ⟨pc,5,none⟩=some (.int .i64 c.buffer)/\w'.cell? ⟨pc,6,none⟩=some (.int .i64 c.stack)/\w'.cell? ⟨pc,7,none⟩=some (.int .i64 c.d_)/\w'.cell? ⟨pc,8,none⟩=some (.int .i64 c.largest)/\w'.cell? ⟨pc,9,none⟩=some (.int .i64 c.minor)/\w'.cell? ⟨pc,10,none⟩=some (.int .i64 c.major)/\w'.cell? ⟨pc,11,none⟩=some (.int .i64 c.dH)/\w'.cell? ⟨pc,12,none⟩=some (.int .i64 c.dm)) (by kernel_rfl) (hB0) (fun hHeld=> ?_)
    refine tk 0 ?_
    refine tk 1 ?_
    refine tk 2 ?_
    refine tk 3 ?_
    refine tk 4 ?_
    refine tk 5 ?_
    refine tk 6 ?_
    refine tk 7 ?_
    refine tk 8 ?_
    refine tk 9 ?_
    refine tk 10 ?_
    refine tk 11 ?_
    refine tk 12 ?_
    refine tk 13 ?_
    try simp only[Act.put,List.setIfInBounds_toArray,List.set_cons_zero,List.set_cons_succ]
    refine wpAnyH_ready (rs:=[14]) (by kernel_rfl) (by simp) ?_
    refine AllReadyH.cons (o:=_) rfl (fun K hK=> ?_) AllReadyH.nil
    go_simp
    go_wp2_with(go_at_call 33;refine Calls.mono (EY.out _ _ _ U1.out.drew'.au C1.out) ?_;rintro e w5 ⟨rfl,hw5⟩;obtain rfl:=hw5.symm;clear hw5)
    try go_wp2_with fail
    refine hK.out _ _ (hB0) (fun hHeld=> ?_)
    clear hK K
    try simp only[Act.put,List.setIfInBounds_toArray,List.set_cons_zero,List.set_cons_succ]
    refine wpAnyH_ready (rs:=[15]) (by kernel_rfl) (by simp) ?_
    refine AllReadyH.cons (o:=_) rfl (fun K hK=> ?_) AllReadyH.nil
    go_simp
    simp only[aN]at OA;go_wp2_with(go_at_call 136;refine Calls.mono (OA.out _ _) ?_;rintro e w6 ⟨rfl,u6⟩;have U6:=Lib.hid (U1.out.drew'.dK u6);have X2:=HX.out _ _ _ U6.out.au C1.out T1.out.cf)
    try go_wp2_with fail
    refine hK.out _ _ (⟨by have:=X2.2.ph;rw[p0]at this;exact this,X2.1.po,X2.1.c0,X2.1.c1,X2.1.c2,X2.1.c3,X2.1.c4,X2.1.c5,X2.1.c6,X2.1.c7,X2.1.c8,X2.1.c9,X2.1.c10,X2.1.c11,X2.1.c12⟩) (fun hHeld=> ?_)
    clear hK K
    try simp only[Act.put,List.setIfInBounds_toArray,List.set_cons_zero,List.set_cons_succ]
    refine tk 16 ?_
    try simp only[Act.put,List.setIfInBounds_toArray,List.set_cons_zero,List.set_cons_succ]
    refine wpAnyH_done (by kernel_rfl) ?_ _
    go_simp
    go_wp2_with(go_at_call 72;refine Calls.mono (Zh.out _ _ _ U6.out.au C1.out T1.out) ?_;rintro e w7 ⟨rfl,h7,c7,u7⟩;have U7:=Lib.hid (U6.out.iL u7);have C7:=Lib.hid c7;have T7:=Lib.hid T1.out.dF;have x9:=(HX.out _ _ _ U7.out.au c7 T7.out.cf).1.c9;clear u7 c7)
    go_wp2_with(first
     | (go_at_call 137;refine Calls.mono (gW _ _ _) ?_;rintro e w8 ⟨rfl,hw8⟩;obtain rfl:=hw8.symm;clear hw8)
     | (go_at_call 104;refine Calls.mono (Td.out _ _ _ _ U7.out.au C7.out T7.out (by have:=FY.out words c.minor;omega)) ?_;rintro e w9 ⟨rfl,h9,c9,u9⟩;have U9:=Lib.hid (U7.out.iL u9);have C9:=Lib.hid c9;have T9:=Lib.hid (T7.out.ja (iY words c.minor));have Oy:=(HX.out _ _ _ U9.out.au c9 T9.out.cf).1.c10;clear u9 c9)
     | (go_at_call 105;refine Calls.mono (Tf.out _ _ _ _ U9.out.au C9.out T9.out (by have:=FY.out words c.major;omega)) ?_;rintro e w10 ⟨rfl,h10,c10,u10⟩;have xu:=Lib.hid (U9.out.iL u10);have C10:=Lib.hid c10;clear u10 c10))
    go_end0
    refine⟨rfl,h10, ?_,xu.out⟩
    rw[HE2.out,Ti.out _ T7.out.cf,Tj.out _ T9.out.cf]
    exact C10.out
   ·have hon: ¬s1.jY=true:=by unfold af.jY;rw[T1.out.cf];simp[f0]
    have HE2:Hid (s.qc words=(s1.uo words).uq words):=Lib.hid (by rw[xR.out];unfold af.rZ;rw[if_neg hon])
    clear hon k20
    refine wp_region_held_drew (S:=fun w'=>w'.cell? ⟨pc,20,none⟩=some (.int .i64 0)/\w'.cell? ⟨pc,15,none⟩=some (.pointer (some ⟨L.po,0,none⟩))/\w'.cell? ⟨pc,0,none⟩=some (.int .i64 c.handles)/\w'.cell? ⟨pc,1,none⟩=some (.int .i64 c.aU)/\w'.cell? ⟨pc,2,none⟩=some (.int .i64 c.pages)/\w'.cell? ⟨pc,3,none⟩=some (.int .i64 c.page)/\w'.cell? ⟨pc,4,none⟩=some (.int .i64 c.card)/\w'.cell? ⟨pc,5,none⟩=some (.int .i64 c.buffer)/\w'.cell? ⟨pc,6,none⟩=some (.int .i64 c.stack)/\w'.cell? ⟨pc,7,none⟩=some (.int .i64 c.d_)/\w'.cell? ⟨pc,8,none⟩=some (.int .i64 c.largest)/\w'.cell? ⟨pc,9,none⟩=some (.int .i64 c.minor)/\w'.cell? ⟨pc,10,none⟩=some (.int .i64 c.major)/\w'.cell? ⟨pc,11,none⟩=some (.int .i64 c.dH)/\w'.cell? ⟨pc,12,none⟩=some (.int .i64 c.dm)) (by kernel_rfl) (hB0) (fun hHeld=> ?_)
    refine tk 0 ?_
    refine tk 1 ?_
    refine tk 2 ?_
    refine tk 3 ?_
    refine tk 4 ?_
    refine tk 5 ?_
    refine tk 6 ?_
    refine tk 7 ?_
    refine tk 8 ?_
    refine tk 9 ?_
    refine tk 10 ?_
    refine tk 11 ?_
    refine tk 12 ?_
    refine tk 13 ?_
    try simp only[Act.put,List.setIfInBounds_toArray,List.set_cons_zero,List.set_cons_succ]
    refine wpAnyH_ready (rs:=[14]) (by kernel_rfl) (by simp) ?_
    refine AllReadyH.cons (o:=_) rfl (fun K hK=> ?_) AllReadyH.nil
    go_simp
    go_wp2_with(go_at_call 33;refine Calls.mono (EY.out _ _ _ U1.out.drew'.au C1.out) ?_;rintro e w5 ⟨rfl,hw5⟩;obtain rfl:=hw5.symm;clear hw5)
    try go_wp2_with fail
    refine hK.out _ _ (hB0) (fun hHeld=> ?_)
    clear hK K
    try simp only[Act.put,List.setIfInBounds_toArray,List.set_cons_zero,List.set_cons_succ]
    refine wpAnyH_ready (rs:=[15]) (by kernel_rfl) (by simp) ?_
    refine AllReadyH.cons (o:=_) rfl (fun K hK=> ?_) AllReadyH.nil
    go_simp
    simp only[aN]at OA;go_wp2_with(go_at_call 136;refine Calls.mono (OA.out _ _) ?_;rintro e w6 ⟨rfl,u6⟩;have U6:=Lib.hid (U1.out.drew'.dK u6);have X2:=HX.out _ _ _ U6.out.au C1.out T1.out.cf)
    try go_wp2_with fail
    refine hK.out _ _ (⟨by have:=X2.2.ph;rw[p0]at this;exact this,X2.1.po,X2.1.c0,X2.1.c1,X2.1.c2,X2.1.c3,X2.1.c4,X2.1.c5,X2.1.c6,X2.1.c7,X2.1.c8,X2.1.c9,X2.1.c10,X2.1.c11,X2.1.c12⟩) (fun hHeld=> ?_)
    clear hK K
    try simp only[Act.put,List.setIfInBounds_toArray,List.set_cons_zero,List.set_cons_succ]
    refine tk 16 ?_
    try simp only[Act.put,List.setIfInBounds_toArray,List.set_cons_zero,List.set_cons_succ]
    refine wpAnyH_done (by kernel_rfl) ?_ _
    go_simp
    have x9:=(HX.out _ _ _ U6.out.au C1.out T1.out.cf).1.c9
    go_wp2_with(first
     | (go_at_call 137;refine Calls.mono (gW _ _ _) ?_;rintro e w8 ⟨rfl,hw8⟩;obtain rfl:=hw8.symm;clear hw8)
     | (go_at_call 104;refine Calls.mono (Td.out _ _ _ _ U6.out.au C1.out T1.out (by have:=FY.out words c.minor;omega)) ?_;rintro e w9 ⟨rfl,h9,c9,u9⟩;have U9:=Lib.hid (U6.out.iL u9);have C9:=Lib.hid c9;have T9:=Lib.hid (T1.out.ja (iY words c.minor));have Oy:=(HX.out _ _ _ U9.out.au c9 T9.out.cf).1.c10;clear u9 c9)
     | (go_at_call 105;refine Calls.mono (Tf.out _ _ _ _ U9.out.au C9.out T9.out (by have:=FY.out words c.major;omega)) ?_;rintro e w10 ⟨rfl,h10,c10,u10⟩;have xu:=Lib.hid (U9.out.iL u10);have C10:=Lib.hid c10;clear u10 c10))
    go_end0
    refine⟨rfl,h10, ?_,xu.out⟩
    rw[HE2.out,Ti.out _ T1.out.cf,Tj.out _ T9.out.cf]
    exact C10.out
  ·have hon: ¬s1.jY=true:=by unfold af.jY;simp[p0]
   have HE2:Hid (s.qc words=(s1.uo words).uq words):=Lib.hid (by rw[xR.out];unfold af.rZ;rw[if_neg hon])
   have p1:(s1.phase==0)=false:=by simpa using p0
   clear hon p0
   have X1:=HX.out _ _ _ U1.out.drew'.au C1.out T1.out.cf
   have hB0:w1.drew.cell? ⟨pc,20,none⟩=some (.int .i64 s1.phase)/\w1.drew.cell? ⟨pc,15,none⟩=some (.pointer (some ⟨L.po,0,none⟩))/\w1.drew.cell? ⟨pc,0,none⟩=some (.int .i64 c.handles)/\w1.drew.cell? ⟨pc,1,none⟩=some (.int .i64 c.aU)/\w1.drew.cell? ⟨pc,2,none⟩=some (.int .i64 c.pages)/\w1.drew.cell? ⟨pc,3,none⟩=some (.int .i64 c.page)/\w1.drew.cell? ⟨pc,4,none⟩=some (.int .i64 c.card)/\w1.drew.cell? ⟨pc,5,none⟩=some (.int .i64 c.buffer)/\w1.drew.cell? ⟨pc,6,none⟩=some (.int .i64 c.stack)/\w1.drew.cell? ⟨pc,7,none⟩=some (.int .i64 c.d_)/\w1.drew.cell? ⟨pc,8,none⟩=some (.int .i64 c.largest)/\w1.drew.cell? ⟨pc,9,none⟩=some (.int .i64 c.minor)/\w1.drew.cell? ⟨pc,10,none⟩=some (.int .i64 c.major)/\w1.drew.cell? ⟨pc,11,none⟩=some (.int .i64 c.dH)/\w1.drew.cell? ⟨pc,12,none⟩=some (.int .i64 c.dm):=⟨X1.2.ph,X1.1.po,X1.1.c0,X1.1.c1,X1.1.c2,X1.1.c3,X1.1.c4,X1.1.c5,X1.1.c6,X1.1.c7,X1.1.c8,X1.1.c9,X1.1.c10,X1.1.c11,X1.1.c12⟩
   clear X1
   refine wp_region_held_drew (S:=fun w'=>w'.cell? ⟨pc,20,none⟩=some (.int .i64 s1.phase)/\w'.cell? ⟨pc,15,none⟩=some (.pointer (some ⟨L.po,0,none⟩))/\w'.cell? ⟨pc,0,none⟩=some (.int .i64 c.handles)/\w'.cell? ⟨pc,1,none⟩=some (.int .i64 c.aU)/\w'.cell? ⟨pc,2,none⟩=some (.int .i64 c.pages)/\w'.cell? ⟨pc,3,none⟩=some (.int .i64 c.page)/\w'.cell? ⟨pc,4,none⟩=some (.int .i64 c.card)/\w'.cell? ⟨pc,5,none⟩=some (.int .i64 c.buffer)/\w'.cell? ⟨pc,6,none⟩=some (.int .i64 c.stack)/\w'.cell? ⟨pc,7,none⟩=some (.int .i64 c.d_)/\w'.cell? ⟨pc,8,none⟩=some (.int .i64 c.largest)/\w'.cell? ⟨pc,9,none⟩=some (.int .i64 c.minor)/\w'.cell? ⟨pc,10,none⟩=some (.int .i64 c.major)/\w'.cell? ⟨pc,11,none⟩=some (.int .i64 c.dH)/\w'.cell? ⟨pc,12,none⟩=some (.int .i64 c.dm)) (by kernel_rfl) (hB0) (fun hHeld=> ?_)
   refine tk 0 ?_
   refine tk 1 ?_
   refine tk 2 ?_
   refine tk 3 ?_
   refine tk 4 ?_
   refine tk 5 ?_
   try simp only[Act.put,List.setIfInBounds_toArray,List.set_cons_zero,List.set_cons_succ]
   refine wpAnyH_take (i:=6) (v:=undef) rfl (by kernel_rfl) (by kernel_rfl) (by kernel_rfl) (fun _ _ _ h=>h) (Or.inr ⟨by kernel_rfl,rfl⟩) (by assumption) ?_
   try simp only[Act.put,List.setIfInBounds_toArray,List.set_cons_zero,List.set_cons_succ]
   refine wpAnyH_take (i:=7) (v:=undef) rfl (by kernel_rfl) (by kernel_rfl) (by kernel_rfl) (fun _ _ _ h=>h) (Or.inr ⟨by kernel_rfl,rfl⟩) (by assumption) ?_
   try simp only[Act.put,List.setIfInBounds_toArray,List.set_cons_zero,List.set_cons_succ]
   refine wpAnyH_take (i:=8) (v:=undef) rfl (by kernel_rfl) (by kernel_rfl) (by kernel_rfl) (fun _ _ _ h=>h) (Or.inr ⟨by kernel_rfl,rfl⟩) (by assumption) ?_
   try simp only[Act.put,List.setIfInBounds_toArray,List.set_cons_zero,List.set_cons_succ]
   refine wpAnyH_take (i:=9) (v:=undef) rfl (by kernel_rfl) (by kernel_rfl) (by kernel_rfl) (fun _ _ _ h=>h) (Or.inr ⟨by kernel_rfl,rfl⟩) (by assumption) ?_
   try simp only[Act.put,List.setIfInBounds_toArray,List.set_cons_zero,List.set_cons_succ]
   refine wpAnyH_take (i:=10) (v:=undef) rfl (by kernel_rfl) (by kernel_rfl) (by kernel_rfl) (fun _ _ _ h=>h) (Or.inr ⟨by kernel_rfl,rfl⟩) (by assumption) ?_
   try simp only[Act.put,List.setIfInBounds_toArray,List.set_cons_zero,List.set_cons_succ]
   refine wpAnyH_take (i:=11) (v:=undef) rfl (by kernel_rfl) (by kernel_rfl) (by kernel_rfl) (fun _ _ _ h=>h) (Or.inr ⟨by kernel_rfl,rfl⟩) (by assumption) ?_
   try simp only[Act.put,List.setIfInBounds_toArray,List.set_cons_zero,List.set_cons_succ]
   refine wpAnyH_take (i:=12) (v:=undef) rfl (by kernel_rfl) (by kernel_rfl) (by kernel_rfl) (fun _ _ _ h=>h) (Or.inr ⟨by kernel_rfl,rfl⟩) (by assumption) ?_
   try simp only[Act.put,List.setIfInBounds_toArray,List.set_cons_zero,List.set_cons_succ]
   refine wpAnyH_take (i:=13) (v:=undef) rfl (by kernel_rfl) (by kernel_rfl) (by kernel_rfl) (fun _ _ _ h=>h) (Or.inr ⟨by kernel_rfl,rfl⟩) (by assumption) ?_
   try simp only[Act.put,List.setIfInBounds_toArray,List.set_cons_zero,List.set_cons_succ]
   refine wpAnyH_take (i:=14) (v:=undef) rfl (by kernel_rfl) (by kernel_rfl) (by kernel_rfl) (fun _ _ _ h=>h) (Or.inr ⟨by kernel_rfl,rfl⟩) (by assumption) ?_
   try simp only[Act.put,List.setIfInBounds_toArray,List.set_cons_zero,List.set_cons_succ]
   refine wpAnyH_take (i:=15) (v:=undef) rfl (by kernel_rfl) (by kernel_rfl) (by kernel_rfl) (fun _ _ _ h=>h) (Or.inr ⟨by kernel_rfl,rfl⟩) (by assumption) ?_
   try simp only[Act.put,List.setIfInBounds_toArray,List.set_cons_zero,List.set_cons_succ]
   refine tk 16 ?_
   try simp only[Act.put,List.setIfInBounds_toArray,List.set_cons_zero,List.set_cons_succ]
   refine wpAnyH_done (by kernel_rfl) ?_ _
   go_simp
   have U6:=Lib.hid U1.out.drew'
   have x9:=(HX.out _ _ _ U6.out.au C1.out T1.out.cf).1.c9
   go_wp2_with(first
    | (go_at_call 137;refine Calls.mono (gW _ _ _) ?_;rintro e w8 ⟨rfl,hw8⟩;obtain rfl:=hw8.symm;clear hw8)
    | (go_at_call 104;refine Calls.mono (Td.out _ _ _ _ U6.out.au C1.out T1.out (by have:=FY.out words c.minor;omega)) ?_;rintro e w9 ⟨rfl,h9,c9,u9⟩;have U9:=Lib.hid (U6.out.iL u9);have C9:=Lib.hid c9;have T9:=Lib.hid (T1.out.ja (iY words c.minor));have Oy:=(HX.out _ _ _ U9.out.au c9 T9.out.cf).1.c10;clear u9 c9)
    | (go_at_call 105;refine Calls.mono (Tf.out _ _ _ _ U9.out.au C9.out T9.out (by have:=FY.out words c.major;omega)) ?_;rintro e w10 ⟨rfl,h10,c10,u10⟩;have xu:=Lib.hid (U9.out.iL u10);have C10:=Lib.hid c10;clear u10 c10))
   go_end0
   refine⟨rfl,h10, ?_,xu.out⟩
   rw[HE2.out,Ti.out _ T1.out.cf,Tj.out _ T9.out.cf]
   exact C10.out
end Go.Proofs.YtibemcgdmembeaaGreat
namespace Go.Proofs.YtibemcgdmembeaaGreat
open Go.RowKit
theorem aW{w0 w:World}{h0 h:Hp}{A B ph pc:Nat}{x:rX}{y:lM}(U:aj h0 ((A, .cells (ai x) 35 (0,0))::(B, .cells (ak y) 38 (0,0))::(ph,aC pc)::h) w0 w):
  w.cell? ⟨ph,0,none⟩=some (.pointer (some ⟨pc,0,none⟩))/\ (w.cell? ⟨B,0,none⟩=some (.int .i64 y.kind)/\w.cell? ⟨B,1,none⟩=some (.int .i64 y.a)/\w.cell? ⟨B,2,none⟩=some (.int .i64 y.b)/\w.cell? ⟨B,3,none⟩=some (.int .i64 y.c)/\w.cell? ⟨B,4,none⟩=some (.int .u64 y.v))/\
  (w.cell? ⟨A,0,none⟩=some (.int .i64 x.e)/\w.cell? ⟨A,1,none⟩=some (.bool x.yes)/\w.cell? ⟨A,2,none⟩=some (.int .i64 x.n)/\w.cell? ⟨A,3,none⟩=some (.int .u64 x.v))/\
  (w.frozen? ⟨A,0,none⟩=false/\w.frozen? ⟨A,1,none⟩=false/\w.frozen? ⟨A,2,none⟩=false/\w.frozen? ⟨A,3,none⟩=false):=
 ⟨cell_of U.au.tail.tail.head 0,step_cells U.au.tail.head,bK U.au.head,jW U.au.head⟩
theorem Tm(ph pc:Nat)(a b c v e:Int)(w:World)(h:Hp)(Q:Hp->Prop)(hi:In w ((ph,aC pc)::h))
  (hcall: ∀W,In W h->Calls Tryz.prog 49 #[ptr pc, .int .i64 a, .int .i64 b, .int .i64 c] W fun en w'=>en= .returned (.int .i64 e)/\ ∃h',Q h'/\aj h h' W w'):
  Calls Tryz.prog 19 #[.pointer (some ⟨ph,0,none⟩), .agg (ak ⟨2,a,b,c,v⟩)] w fun en w'=>en= .returned (.agg (ai ⟨e,false,0,0⟩))/\ ∃h',Q h'/\aj ((ph,aC pc)::h) ((ph,aC pc)::h') w w':=by
 have U0:=((aj.refl hi).alloc' (.cells (ak ⟨2,a,b,c,v⟩) 38 (0,0))).alloc' (.cells (ai aT) 35 (0,0))
 have hs1:(w.alloc (.cells (ak ⟨2,a,b,c,v⟩) 38 (0,0))).heap.size=w.heap.size+1:=by simp
 rw[hs1]at U0
 clear hs1
 have own:w.cell? ⟨ph,0,none⟩=some (.pointer (some ⟨pc,0,none⟩)):=cell_of hi.head 0
 have hpl:ph<w.heap.size:=World.block_lt_of_cell? _ _ own
 have U0:=Lib.hid U0
 have jR:=Lib.hid hcall
 clear hcall hi
 simp only[ptr]at jR
 go_enter Tryz.func19,Tryz.ntmps19
 simp only[ak]
 go_wp2
 have X0:=aW (x:=aT) (y:=⟨2,a,b,c,v⟩) U0.out.drew'
 simp only[ak,ai,aT]at U0 X0
 clear own hpl
 generalize hW:(w.alloc (.cells #[.int .i64 2, .int .i64 a, .int .i64 b, .int .i64 c, .int .u64 v] 38 (0,0))).alloc (.cells #[.int .i64 0, .bool false, .int .i64 0, .int .u64 0] 35 (0,0))=W at*
 generalize w.heap.size+1=A at*
 generalize w.heap.size=B at*
 clear hW
 have hS0:W.drew.cell? ⟨ph,0,none⟩=some (.pointer (some ⟨pc,0,none⟩))/\W.drew.cell? ⟨B,1,none⟩=some (.int .i64 a)/\W.drew.cell? ⟨B,2,none⟩=some (.int .i64 b)/\W.drew.cell? ⟨B,3,none⟩=some (.int .i64 c):=⟨X0.1,X0.2.1.2.1,X0.2.1.2.2.1,X0.2.1.2.2.2.1⟩
 have U0:Hid (aj ((ph,aC pc)::h) ((A, .cells (ai aT) 35 (0,0))::(B, .cells (ak ⟨2,a,b,c,v⟩) 38 (0,0))::(ph,aC pc)::h) w W):=U0
 clear X0
 refine wp_region_held_drew (S:=fun w'=>w'.cell? ⟨ph,0,none⟩=some (.pointer (some ⟨pc,0,none⟩))/\w'.cell? ⟨B,1,none⟩=some (.int .i64 a)/\w'.cell? ⟨B,2,none⟩=some (.int .i64 b)/\w'.cell? ⟨B,3,none⟩=some (.int .i64 c)) (by kernel_rfl) (hS0) (fun hHeld=> ?_)
 refine tk 0 ?_
 refine tk 1 ?_
 refine tk 2 ?_
 refine tk 3 ?_
 refine tk 4 ?_
 refine tk 5 ?_
 refine tk 6 ?_
 refine tk 7 ?_
 refine tk 8 ?_
 refine tk 9 ?_
 try simp only[Act.put,List.setIfInBounds_toArray,List.set_cons_zero,List.set_cons_succ]
 refine wpAnyH_ready (rs:=[10]) (by kernel_rfl) (by simp) ?_
 refine AllReadyH.cons (o:=_) rfl (fun K hK=> ?_) AllReadyH.nil
 go_simp
 go_wp2_with(go_at_call 49;refine Calls.mono (jR.out _ U0.out.drew'.au.tail.tail.tail) ?_;rintro en w1 ⟨rfl,h',hq,u1⟩;have U1:=Lib.hid (aj.dP (x:=[(A, .cells (ai aT) 35 (0,0)),(B, .cells (ak ⟨2,a,b,c,v⟩) 38 (0,0)),(ph,aC pc)]) U0.out.drew' u1);have X1:=aW (x:=aT) (y:=⟨2,a,b,c,v⟩) U1.out;have X2:=aW (x:=⟨e,false,0,0⟩) (y:=⟨2,a,b,c,v⟩) (aj.lV (x:=aT) U1.out ⟨e,false,0,0⟩);(obtain⟨d0,d1,d2,d3⟩:=X1.2.2.1);(obtain⟨f0,f1,f2,f3⟩:=X1.2.2.2);simp only[aT]at d0 d1 d2 d3)
 try go_wp2_with fail
 refine hK.out _ _ (⟨X1.1,X1.2.1.2.1,X1.2.1.2.2.1,X1.2.1.2.2.2.1⟩) (fun hHeld=> ?_)
 clear hK K
 try simp only[Act.put,List.setIfInBounds_toArray,List.set_cons_zero,List.set_cons_succ]
 refine tk 11 ?_
 try simp only[Act.put,List.setIfInBounds_toArray,List.set_cons_zero,List.set_cons_succ]
 refine wpAnyH_ready (rs:=[12]) (by kernel_rfl) (by simp) ?_
 refine AllReadyH.cons (o:=_) rfl (fun K hK=> ?_) AllReadyH.nil
 go_simp
 skip
 try go_wp2_with fail
 refine hK.out _ _ (⟨X2.1,X2.2.1.2.1,X2.2.1.2.2.1,X2.2.1.2.2.2.1⟩) (fun hHeld=> ?_)
 clear hK K
 try simp only[Act.put,List.setIfInBounds_toArray,List.set_cons_zero,List.set_cons_succ]
 refine wpAnyH_done (by kernel_rfl) ?_ _
 go_simp
 go_wp2
 have UF:=aj.lV (x:=aT) U1.out ⟨e,false,0,0⟩
 have G:=bK UF.au.head
 simp only at G
 obtain⟨g0,g1,g2,g3⟩:=G
 clear d0 d1 d2 d3 f0 f1 f2 f3 X1 X2 hS0
 refine bodyPost_ret (v:= .agg (ai ⟨e,false,0,0⟩)) ?_ rfl ⟨rfl,h',hq,UF.drop1.drop1⟩
 simp only[results,Tryz.results19]
 simp[go_sem,ai,g0,g1,g2,g3]
theorem Tn(ph pc:Nat)(a b c v e:Int)(w:World)(h:Hp)(Q:Hp->Prop)(hi:In w ((ph,aC pc)::h))
  (hcall: ∀W,In W h->Calls Tryz.prog 50 #[ptr pc, .int .i64 a, .int .i64 b, .int .i64 c] W fun en w'=>en= .returned (.int .i64 e)/\ ∃h',Q h'/\aj h h' W w'):
  Calls Tryz.prog 19 #[.pointer (some ⟨ph,0,none⟩), .agg (ak ⟨3,a,b,c,v⟩)] w fun en w'=>en= .returned (.agg (ai ⟨e,false,0,0⟩))/\ ∃h',Q h'/\aj ((ph,aC pc)::h) ((ph,aC pc)::h') w w':=by
 have U0:=((aj.refl hi).alloc' (.cells (ak ⟨3,a,b,c,v⟩) 38 (0,0))).alloc' (.cells (ai aT) 35 (0,0))
 have hs1:(w.alloc (.cells (ak ⟨3,a,b,c,v⟩) 38 (0,0))).heap.size=w.heap.size+1:=by simp
 rw[hs1]at U0
 clear hs1
 have own:w.cell? ⟨ph,0,none⟩=some (.pointer (some ⟨pc,0,none⟩)):=cell_of hi.head 0
 have hpl:ph<w.heap.size:=World.block_lt_of_cell? _ _ own
 have U0:=Lib.hid U0
 have jR:=Lib.hid hcall
 clear hcall hi
 simp only[ptr]at jR
 go_enter Tryz.func19,Tryz.ntmps19
 simp only[ak]
 go_wp2
 have X0:=aW (x:=aT) (y:=⟨3,a,b,c,v⟩) U0.out.drew'
 simp only[ak,ai,aT]at U0 X0
 clear own hpl
 generalize hW:(w.alloc (.cells #[.int .i64 3, .int .i64 a, .int .i64 b, .int .i64 c, .int .u64 v] 38 (0,0))).alloc (.cells #[.int .i64 0, .bool false, .int .i64 0, .int .u64 0] 35 (0,0))=W at*
 generalize w.heap.size+1=A at*
 generalize w.heap.size=B at*
 clear hW
 have hS0:W.drew.cell? ⟨ph,0,none⟩=some (.pointer (some ⟨pc,0,none⟩))/\W.drew.cell? ⟨B,1,none⟩=some (.int .i64 a)/\W.drew.cell? ⟨B,2,none⟩=some (.int .i64 b)/\W.drew.cell? ⟨B,3,none⟩=some (.int .i64 c):=⟨X0.1,X0.2.1.2.1,X0.2.1.2.2.1,X0.2.1.2.2.2.1⟩
 have U0:Hid (aj ((ph,aC pc)::h) ((A, .cells (ai aT) 35 (0,0))::(B, .cells (ak ⟨3,a,b,c,v⟩) 38 (0,0))::(ph,aC pc)::h) w W):=U0
 clear X0
 refine wp_region_held_drew (S:=fun w'=>w'.cell? ⟨ph,0,none⟩=some (.pointer (some ⟨pc,0,none⟩))/\w'.cell? ⟨B,1,none⟩=some (.int .i64 a)/\w'.cell? ⟨B,2,none⟩=some (.int .i64 b)/\w'.cell? ⟨B,3,none⟩=some (.int .i64 c)) (by kernel_rfl) (hS0) (fun hHeld=> ?_)
 refine tk 0 ?_
 refine tk 1 ?_
 refine tk 2 ?_
 refine tk 3 ?_
 refine tk 4 ?_
 refine tk 5 ?_
 refine tk 6 ?_
 refine tk 7 ?_
 refine tk 8 ?_
 refine tk 9 ?_
 try simp only[Act.put,List.setIfInBounds_toArray,List.set_cons_zero,List.set_cons_succ]
 refine wpAnyH_ready (rs:=[10]) (by kernel_rfl) (by simp) ?_
 refine AllReadyH.cons (o:=_) rfl (fun K hK=> ?_) AllReadyH.nil
 go_simp
 go_wp2_with(go_at_call 50;refine Calls.mono (jR.out _ U0.out.drew'.au.tail.tail.tail) ?_;rintro en w1 ⟨rfl,h',hq,u1⟩;have U1:=Lib.hid (aj.dP (x:=[(A, .cells (ai aT) 35 (0,0)),(B, .cells (ak ⟨3,a,b,c,v⟩) 38 (0,0)),(ph,aC pc)]) U0.out.drew' u1);have X1:=aW (x:=aT) (y:=⟨3,a,b,c,v⟩) U1.out;have X2:=aW (x:=⟨e,false,0,0⟩) (y:=⟨3,a,b,c,v⟩) (aj.lV (x:=aT) U1.out ⟨e,false,0,0⟩);(obtain⟨d0,d1,d2,d3⟩:=X1.2.2.1);(obtain⟨f0,f1,f2,f3⟩:=X1.2.2.2);simp only[aT]at d0 d1 d2 d3)
 try go_wp2_with fail
 refine hK.out _ _ (⟨X1.1,X1.2.1.2.1,X1.2.1.2.2.1,X1.2.1.2.2.2.1⟩) (fun hHeld=> ?_)
 clear hK K
 try simp only[Act.put,List.setIfInBounds_toArray,List.set_cons_zero,List.set_cons_succ]
 refine tk 11 ?_
 try simp only[Act.put,List.setIfInBounds_toArray,List.set_cons_zero,List.set_cons_succ]
 refine wpAnyH_ready (rs:=[12]) (by kernel_rfl) (by simp) ?_
 refine AllReadyH.cons (o:=_) rfl (fun K hK=> ?_) AllReadyH.nil
 go_simp
 skip
 try go_wp2_with fail
 refine hK.out _ _ (⟨X2.1,X2.2.1.2.1,X2.2.1.2.2.1,X2.2.1.2.2.2.1⟩) (fun hHeld=> ?_)
 clear hK K
 try simp only[Act.put,List.setIfInBounds_toArray,List.set_cons_zero,List.set_cons_succ]
 refine wpAnyH_done (by kernel_rfl) ?_ _
 go_simp
 go_wp2
 have UF:=aj.lV (x:=aT) U1.out ⟨e,false,0,0⟩
 have G:=bK UF.au.head
 simp only at G
 obtain⟨g0,g1,g2,g3⟩:=G
 clear d0 d1 d2 d3 f0 f1 f2 f3 X1 X2 hS0
 refine bodyPost_ret (v:= .agg (ai ⟨e,false,0,0⟩)) ?_ rfl ⟨rfl,h',hq,UF.drop1.drop1⟩
 simp only[results,Tryz.results19]
 simp[go_sem,ai,g0,g1,g2,g3]
theorem Og(ph pc:Nat)(a b c v e:Int)(w:World)(h:Hp)(Q:Hp->Prop)(hi:In w ((ph,aC pc)::h))
  (hcall: ∀W,In W h->Calls Tryz.prog 51 #[ptr pc, .int .i64 a, .int .i64 b, .int .u64 v] W fun en w'=>en= .returned (.int .i64 e)/\ ∃h',Q h'/\aj h h' W w'):
  Calls Tryz.prog 19 #[.pointer (some ⟨ph,0,none⟩), .agg (ak ⟨5,a,b,c,v⟩)] w fun en w'=>en= .returned (.agg (ai ⟨e,false,0,0⟩))/\ ∃h',Q h'/\aj ((ph,aC pc)::h) ((ph,aC pc)::h') w w':=by
 have U0:=((aj.refl hi).alloc' (.cells (ak ⟨5,a,b,c,v⟩) 38 (0,0))).alloc' (.cells (ai aT) 35 (0,0))
 have hs1:(w.alloc (.cells (ak ⟨5,a,b,c,v⟩) 38 (0,0))).heap.size=w.heap.size+1:=by simp
 rw[hs1]at U0
 clear hs1
 have own:w.cell? ⟨ph,0,none⟩=some (.pointer (some ⟨pc,0,none⟩)):=cell_of hi.head 0
 have hpl:ph<w.heap.size:=World.block_lt_of_cell? _ _ own
 have U0:=Lib.hid U0
 have jR:=Lib.hid hcall
 clear hcall hi
 simp only[ptr]at jR
 go_enter Tryz.func19,Tryz.ntmps19
 simp only[ak]
 go_wp2
 have X0:=aW (x:=aT) (y:=⟨5,a,b,c,v⟩) U0.out.drew'
 simp only[ak,ai,aT]at U0 X0
 clear own hpl
 generalize hW:(w.alloc (.cells #[.int .i64 5, .int .i64 a, .int .i64 b, .int .i64 c, .int .u64 v] 38 (0,0))).alloc (.cells #[.int .i64 0, .bool false, .int .i64 0, .int .u64 0] 35 (0,0))=W at*
 generalize w.heap.size+1=A at*
 generalize w.heap.size=B at*
 clear hW
 have hS0:W.drew.cell? ⟨ph,0,none⟩=some (.pointer (some ⟨pc,0,none⟩))/\W.drew.cell? ⟨B,1,none⟩=some (.int .i64 a)/\W.drew.cell? ⟨B,2,none⟩=some (.int .i64 b)/\W.drew.cell? ⟨B,4,none⟩=some (.int .u64 v):=⟨X0.1,X0.2.1.2.1,X0.2.1.2.2.1,X0.2.1.2.2.2.2⟩
 have U0:Hid (aj ((ph,aC pc)::h) ((A, .cells (ai aT) 35 (0,0))::(B, .cells (ak ⟨5,a,b,c,v⟩) 38 (0,0))::(ph,aC pc)::h) w W):=U0
 clear X0
 refine wp_region_held_drew (S:=fun w'=>w'.cell? ⟨ph,0,none⟩=some (.pointer (some ⟨pc,0,none⟩))/\w'.cell? ⟨B,1,none⟩=some (.int .i64 a)/\w'.cell? ⟨B,2,none⟩=some (.int .i64 b)/\w'.cell? ⟨B,4,none⟩=some (.int .u64 v)) (by kernel_rfl) (hS0) (fun hHeld=> ?_)
 refine tk 0 ?_
 refine tk 1 ?_
 refine tk 2 ?_
 refine tk 3 ?_
 refine tk 4 ?_
 refine tk 5 ?_
 refine tk 6 ?_
 refine tk 7 ?_
 refine tk 8 ?_
 refine tk 9 ?_
 try simp only[Act.put,List.setIfInBounds_toArray,List.set_cons_zero,List.set_cons_succ]
 refine wpAnyH_ready (rs:=[10]) (by kernel_rfl) (by simp) ?_
 refine AllReadyH.cons (o:=_) rfl (fun K hK=> ?_) AllReadyH.nil
 go_simp
 go_wp2_with(go_at_call 51;refine Calls.mono (jR.out _ U0.out.drew'.au.tail.tail.tail) ?_;rintro en w1 ⟨rfl,h',hq,u1⟩;have U1:=Lib.hid (aj.dP (x:=[(A, .cells (ai aT) 35 (0,0)),(B, .cells (ak ⟨5,a,b,c,v⟩) 38 (0,0)),(ph,aC pc)]) U0.out.drew' u1);have X1:=aW (x:=aT) (y:=⟨5,a,b,c,v⟩) U1.out;have X2:=aW (x:=⟨e,false,0,0⟩) (y:=⟨5,a,b,c,v⟩) (aj.lV (x:=aT) U1.out ⟨e,false,0,0⟩);(obtain⟨d0,d1,d2,d3⟩:=X1.2.2.1);(obtain⟨f0,f1,f2,f3⟩:=X1.2.2.2);simp only[aT]at d0 d1 d2 d3)
 try go_wp2_with fail
 refine hK.out _ _ (⟨X1.1,X1.2.1.2.1,X1.2.1.2.2.1,X1.2.1.2.2.2.2⟩) (fun hHeld=> ?_)
 clear hK K
 try simp only[Act.put,List.setIfInBounds_toArray,List.set_cons_zero,List.set_cons_succ]
 refine tk 11 ?_
 try simp only[Act.put,List.setIfInBounds_toArray,List.set_cons_zero,List.set_cons_succ]
 refine wpAnyH_ready (rs:=[12]) (by kernel_rfl) (by simp) ?_
 refine AllReadyH.cons (o:=_) rfl (fun K hK=> ?_) AllReadyH.nil
 go_simp
 skip
 try go_wp2_with fail
 refine hK.out _ _ (⟨X2.1,X2.2.1.2.1,X2.2.1.2.2.1,X2.2.1.2.2.2.2⟩) (fun hHeld=> ?_)
 clear hK K
 try simp only[Act.put,List.setIfInBounds_toArray,List.set_cons_zero,List.set_cons_succ]
 refine wpAnyH_done (by kernel_rfl) ?_ _
 go_simp
 go_wp2
 have UF:=aj.lV (x:=aT) U1.out ⟨e,false,0,0⟩
 have G:=bK UF.au.head
 simp only at G
 obtain⟨g0,g1,g2,g3⟩:=G
 clear d0 d1 d2 d3 f0 f1 f2 f3 X1 X2 hS0
 refine bodyPost_ret (v:= .agg (ai ⟨e,false,0,0⟩)) ?_ rfl ⟨rfl,h',hq,UF.drop1.drop1⟩
 simp only[results,Tryz.results19]
 simp[go_sem,ai,g0,g1,g2,g3]
theorem Oh(ph pc:Nat)(a b c v e:Int)(w:World)(h:Hp)(Q:Hp->Prop)(hi:In w ((ph,aC pc)::h))
  (hcall: ∀W,In W h->Calls Tryz.prog 40 #[ptr pc, .int .i64 a] W fun en w'=>en= .returned (.int .i64 e)/\ ∃h',Q h'/\aj h h' W w'):
  Calls Tryz.prog 19 #[.pointer (some ⟨ph,0,none⟩), .agg (ak ⟨6,a,b,c,v⟩)] w fun en w'=>en= .returned (.agg (ai ⟨e,false,0,0⟩))/\ ∃h',Q h'/\aj ((ph,aC pc)::h) ((ph,aC pc)::h') w w':=by
 have U0:=((aj.refl hi).alloc' (.cells (ak ⟨6,a,b,c,v⟩) 38 (0,0))).alloc' (.cells (ai aT) 35 (0,0))
 have hs1:(w.alloc (.cells (ak ⟨6,a,b,c,v⟩) 38 (0,0))).heap.size=w.heap.size+1:=by simp
 rw[hs1]at U0
 clear hs1
 have own:w.cell? ⟨ph,0,none⟩=some (.pointer (some ⟨pc,0,none⟩)):=cell_of hi.head 0
 have hpl:ph<w.heap.size:=World.block_lt_of_cell? _ _ own
 have U0:=Lib.hid U0
 have jR:=Lib.hid hcall
 clear hcall hi
 simp only[ptr]at jR
 go_enter Tryz.func19,Tryz.ntmps19
 simp only[ak]
 go_wp2
 have X0:=aW (x:=aT) (y:=⟨6,a,b,c,v⟩) U0.out.drew'
 simp only[ak,ai,aT]at U0 X0
 clear own hpl
 generalize hW:(w.alloc (.cells #[.int .i64 6, .int .i64 a, .int .i64 b, .int .i64 c, .int .u64 v] 38 (0,0))).alloc (.cells #[.int .i64 0, .bool false, .int .i64 0, .int .u64 0] 35 (0,0))=W at*
 generalize w.heap.size+1=A at*
 generalize w.heap.size=B at*
 clear hW
 have hS0:W.drew.cell? ⟨ph,0,none⟩=some (.pointer (some ⟨pc,0,none⟩))/\W.drew.cell? ⟨B,1,none⟩=some (.int .i64 a):=⟨X0.1,X0.2.1.2.1⟩
 have U0:Hid (aj ((ph,aC pc)::h) ((A, .cells (ai aT) 35 (0,0))::(B, .cells (ak ⟨6,a,b,c,v⟩) 38 (0,0))::(ph,aC pc)::h) w W):=U0
 clear X0
 refine wp_region_held_drew (S:=fun w'=>w'.cell? ⟨ph,0,none⟩=some (.pointer (some ⟨pc,0,none⟩))/\w'.cell? ⟨B,1,none⟩=some (.int .i64 a)) (by kernel_rfl) (hS0) (fun hHeld=> ?_)
 refine tk 0 ?_
 refine tk 1 ?_
 refine tk 2 ?_
 refine tk 3 ?_
 refine tk 4 ?_
 refine tk 5 ?_
 try simp only[Act.put,List.setIfInBounds_toArray,List.set_cons_zero,List.set_cons_succ]
 refine wpAnyH_ready (rs:=[6]) (by kernel_rfl) (by simp) ?_
 refine AllReadyH.cons (o:=_) rfl (fun K hK=> ?_) AllReadyH.nil
 go_simp
 go_wp2_with(go_at_call 40;refine Calls.mono (jR.out _ U0.out.drew'.au.tail.tail.tail) ?_;rintro en w1 ⟨rfl,h',hq,u1⟩;have U1:=Lib.hid (aj.dP (x:=[(A, .cells (ai aT) 35 (0,0)),(B, .cells (ak ⟨6,a,b,c,v⟩) 38 (0,0)),(ph,aC pc)]) U0.out.drew' u1);have X1:=aW (x:=aT) (y:=⟨6,a,b,c,v⟩) U1.out;have X2:=aW (x:=⟨e,false,0,0⟩) (y:=⟨6,a,b,c,v⟩) (aj.lV (x:=aT) U1.out ⟨e,false,0,0⟩);(obtain⟨d0,d1,d2,d3⟩:=X1.2.2.1);(obtain⟨f0,f1,f2,f3⟩:=X1.2.2.2);simp only[aT]at d0 d1 d2 d3)
 try go_wp2_with fail
 refine hK.out _ _ (⟨X1.1,X1.2.1.2.1⟩) (fun hHeld=> ?_)
 clear hK K
 try simp only[Act.put,List.setIfInBounds_toArray,List.set_cons_zero,List.set_cons_succ]
 refine tk 7 ?_
 try simp only[Act.put,List.setIfInBounds_toArray,List.set_cons_zero,List.set_cons_succ]
 refine wpAnyH_ready (rs:=[8]) (by kernel_rfl) (by simp) ?_
 refine AllReadyH.cons (o:=_) rfl (fun K hK=> ?_) AllReadyH.nil
 go_simp
 skip
 try go_wp2_with fail
 refine hK.out _ _ (⟨X2.1,X2.2.1.2.1⟩) (fun hHeld=> ?_)
 clear hK K
 try simp only[Act.put,List.setIfInBounds_toArray,List.set_cons_zero,List.set_cons_succ]
 refine wpAnyH_done (by kernel_rfl) ?_ _
 go_simp
 go_wp2
 have UF:=aj.lV (x:=aT) U1.out ⟨e,false,0,0⟩
 have G:=bK UF.au.head
 simp only at G
 obtain⟨g0,g1,g2,g3⟩:=G
 clear d0 d1 d2 d3 f0 f1 f2 f3 X1 X2 hS0
 refine bodyPost_ret (v:= .agg (ai ⟨e,false,0,0⟩)) ?_ rfl ⟨rfl,h',hq,UF.drop1.drop1⟩
 simp only[results,Tryz.results19]
 simp[go_sem,ai,g0,g1,g2,g3]
theorem Qw(ph pc:Nat)(a b c v e:Int)(w:World)(h:Hp)(Q:Hp->Prop)(hi:In w ((ph,aC pc)::h))
  (hcall: ∀W,In W h->Calls Tryz.prog 52 #[ptr pc, .int .i64 a, .int .i64 b] W fun en w'=>en= .returned (.int .i64 e)/\ ∃h',Q h'/\aj h h' W w'):
  Calls Tryz.prog 19 #[.pointer (some ⟨ph,0,none⟩), .agg (ak ⟨7,a,b,c,v⟩)] w fun en w'=>en= .returned (.agg (ai ⟨e,false,0,0⟩))/\ ∃h',Q h'/\aj ((ph,aC pc)::h) ((ph,aC pc)::h') w w':=by
 have U0:=((aj.refl hi).alloc' (.cells (ak ⟨7,a,b,c,v⟩) 38 (0,0))).alloc' (.cells (ai aT) 35 (0,0))
 have hs1:(w.alloc (.cells (ak ⟨7,a,b,c,v⟩) 38 (0,0))).heap.size=w.heap.size+1:=by simp
 rw[hs1]at U0
 clear hs1
 have own:w.cell? ⟨ph,0,none⟩=some (.pointer (some ⟨pc,0,none⟩)):=cell_of hi.head 0
 have hpl:ph<w.heap.size:=World.block_lt_of_cell? _ _ own
 have U0:=Lib.hid U0
 have jR:=Lib.hid hcall
 clear hcall hi
 simp only[ptr]at jR
 go_enter Tryz.func19,Tryz.ntmps19
 simp only[ak]
 go_wp2
 have X0:=aW (x:=aT) (y:=⟨7,a,b,c,v⟩) U0.out.drew'
 simp only[ak,ai,aT]at U0 X0
 clear own hpl
 generalize hW:(w.alloc (.cells #[.int .i64 7, .int .i64 a, .int .i64 b, .int .i64 c, .int .u64 v] 38 (0,0))).alloc (.cells #[.int .i64 0, .bool false, .int .i64 0, .int .u64 0] 35 (0,0))=W at*
 generalize w.heap.size+1=A at*
 generalize w.heap.size=B at*
 clear hW
 have hS0:W.drew.cell? ⟨ph,0,none⟩=some (.pointer (some ⟨pc,0,none⟩))/\W.drew.cell? ⟨B,1,none⟩=some (.int .i64 a)/\W.drew.cell? ⟨B,2,none⟩=some (.int .i64 b):=⟨X0.1,X0.2.1.2.1,X0.2.1.2.2.1⟩
 have U0:Hid (aj ((ph,aC pc)::h) ((A, .cells (ai aT) 35 (0,0))::(B, .cells (ak ⟨7,a,b,c,v⟩) 38 (0,0))::(ph,aC pc)::h) w W):=U0
 clear X0
 refine wp_region_held_drew (S:=fun w'=>w'.cell? ⟨ph,0,none⟩=some (.pointer (some ⟨pc,0,none⟩))/\w'.cell? ⟨B,1,none⟩=some (.int .i64 a)/\w'.cell? ⟨B,2,none⟩=some (.int .i64 b)) (by kernel_rfl) (hS0) (fun hHeld=> ?_)
 refine tk 0 ?_
 refine tk 1 ?_
 refine tk 2 ?_
 refine tk 3 ?_
 refine tk 4 ?_
 refine tk 5 ?_
 refine tk 6 ?_
 refine tk 7 ?_
 try simp only[Act.put,List.setIfInBounds_toArray,List.set_cons_zero,List.set_cons_succ]
 refine wpAnyH_ready (rs:=[8]) (by kernel_rfl) (by simp) ?_
 refine AllReadyH.cons (o:=_) rfl (fun K hK=> ?_) AllReadyH.nil
 go_simp
 go_wp2_with(go_at_call 52;refine Calls.mono (jR.out _ U0.out.drew'.au.tail.tail.tail) ?_;rintro en w1 ⟨rfl,h',hq,u1⟩;have U1:=Lib.hid (aj.dP (x:=[(A, .cells (ai aT) 35 (0,0)),(B, .cells (ak ⟨7,a,b,c,v⟩) 38 (0,0)),(ph,aC pc)]) U0.out.drew' u1);have X1:=aW (x:=aT) (y:=⟨7,a,b,c,v⟩) U1.out;have X2:=aW (x:=⟨e,false,0,0⟩) (y:=⟨7,a,b,c,v⟩) (aj.lV (x:=aT) U1.out ⟨e,false,0,0⟩);(obtain⟨d0,d1,d2,d3⟩:=X1.2.2.1);(obtain⟨f0,f1,f2,f3⟩:=X1.2.2.2);simp only[aT]at d0 d1 d2 d3)
 try go_wp2_with fail
 refine hK.out _ _ (⟨X1.1,X1.2.1.2.1,X1.2.1.2.2.1⟩) (fun hHeld=> ?_)
 clear hK K
 try simp only[Act.put,List.setIfInBounds_toArray,List.set_cons_zero,List.set_cons_succ]
 refine tk 9 ?_
 try simp only[Act.put,List.setIfInBounds_toArray,List.set_cons_zero,List.set_cons_succ]
 refine wpAnyH_ready (rs:=[10]) (by kernel_rfl) (by simp) ?_
 refine AllReadyH.cons (o:=_) rfl (fun K hK=> ?_) AllReadyH.nil
 go_simp
 skip
 try go_wp2_with fail
 refine hK.out _ _ (⟨X2.1,X2.2.1.2.1,X2.2.1.2.2.1⟩) (fun hHeld=> ?_)
 clear hK K
 try simp only[Act.put,List.setIfInBounds_toArray,List.set_cons_zero,List.set_cons_succ]
 refine wpAnyH_done (by kernel_rfl) ?_ _
 go_simp
 go_wp2
 have UF:=aj.lV (x:=aT) U1.out ⟨e,false,0,0⟩
 have G:=bK UF.au.head
 simp only at G
 obtain⟨g0,g1,g2,g3⟩:=G
 clear d0 d1 d2 d3 f0 f1 f2 f3 X1 X2 hS0
 refine bodyPost_ret (v:= .agg (ai ⟨e,false,0,0⟩)) ?_ rfl ⟨rfl,h',hq,UF.drop1.drop1⟩
 simp only[results,Tryz.results19]
 simp[go_sem,ai,g0,g1,g2,g3]
end Go.Proofs.YtibemcgdmembeaaGreat
namespace Go.Proofs.YtibemcgdmembeaaGreat
open Go.RowKit
theorem Oi(ph pc:Nat)(a b c v:Int)(q:Int)(e:Int)(w:World)(h:Hp)(Q:Hp->Prop)(hi:In w ((ph,aC pc)::h))
  (hcall: ∀W,In W h->Calls Tryz.prog 106 #[ptr pc, .int .i64 a, .int .i64 b] W fun en w'=>en= .returned (.tuple #[.int .u64 q, .int .i64 e])/\ ∃h',Q h'/\aj h h' W w'):
  Calls Tryz.prog 55 #[.pointer (some ⟨ph,0,none⟩), .agg (ak ⟨4,a,b,c,v⟩)] w fun en w'=>en= .returned (.agg (ai ⟨e,false,0,q⟩))/\ ∃h',Q h'/\aj ((ph,aC pc)::h) ((ph,aC pc)::h') w w':=by
 have U0:=(((aj.refl hi).alloc' (.cells (ak ⟨4,a,b,c,v⟩) 38 (0,0))).alloc' (.cells (ai aT) 35 (0,0))).alloc' (.cells (ai aT) 35 (0,0))
 have hs1:(w.alloc (.cells (ak ⟨4,a,b,c,v⟩) 38 (0,0))).heap.size=w.heap.size+1:=by simp
 have hs2:((w.alloc (.cells (ak ⟨4,a,b,c,v⟩) 38 (0,0))).alloc (.cells (ai aT) 35 (0,0))).heap.size=w.heap.size+1+1:=by simp
 rw[hs1,hs2]at U0
 clear hs1 hs2
 have own:w.cell? ⟨ph,0,none⟩=some (.pointer (some ⟨pc,0,none⟩)):=cell_of hi.head 0
 have hpl:ph<w.heap.size:=World.block_lt_of_cell? _ _ own
 have hn1:w.heap.size+1+1≠w.heap.size+1:=by omega
 have hn2:w.heap.size+1≠w.heap.size+1+1:=by omega
 have U0:=Lib.hid U0
 have jR:=Lib.hid hcall
 clear hcall hi
 simp only[ptr]at jR
 go_enter Tryz.func55,Tryz.ntmps55
 simp only[ak]
 go_wp2
 have X0:=aW (x:=aT) (y:=⟨4,a,b,c,v⟩) U0.out.drew'.drop1
 simp only[ak,ai,aT]at U0 X0
 clear own hpl
 generalize hW:((w.alloc (.cells #[.int .i64 4, .int .i64 a, .int .i64 b, .int .i64 c, .int .u64 v] 38 (0,0))).alloc (.cells #[.int .i64 0, .bool false, .int .i64 0, .int .u64 0] 35 (0,0))).alloc (.cells #[.int .i64 0, .bool false, .int .i64 0, .int .u64 0] 35 (0,0))=W at*
 generalize w.heap.size+1+1=C at*
 generalize w.heap.size+1=A at*
 generalize w.heap.size=B at*
 clear hW
 have hS0:W.drew.cell? ⟨ph,0,none⟩=some (.pointer (some ⟨pc,0,none⟩))/\W.drew.cell? ⟨B,1,none⟩=some (.int .i64 a)/\W.drew.cell? ⟨B,2,none⟩=some (.int .i64 b):=⟨X0.1,X0.2.1.2.1,X0.2.1.2.2.1⟩
 have U0:Hid (aj ((ph,aC pc)::h) ((C, .cells (ai aT) 35 (0,0))::(A, .cells (ai aT) 35 (0,0))::(B, .cells (ak ⟨4,a,b,c,v⟩) 38 (0,0))::(ph,aC pc)::h) w W):=U0
 clear X0
 refine wp_region_held_drew (S:=fun w'=>w'.cell? ⟨ph,0,none⟩=some (.pointer (some ⟨pc,0,none⟩))/\w'.cell? ⟨B,1,none⟩=some (.int .i64 a)/\w'.cell? ⟨B,2,none⟩=some (.int .i64 b)) (by kernel_rfl) (hS0) (fun hHeld=> ?_)
 refine tk 0 ?_
 refine tk 1 ?_
 refine tk 2 ?_
 refine tk 3 ?_
 refine tk 4 ?_
 refine tk 5 ?_
 refine tk 6 ?_
 refine tk 7 ?_
 try simp only[Act.put,List.setIfInBounds_toArray,List.set_cons_zero,List.set_cons_succ]
 refine wpAnyH_ready (rs:=[8]) (by kernel_rfl) (by simp) ?_
 refine AllReadyH.cons (o:=_) rfl (fun K hK=> ?_) AllReadyH.nil
 go_simp
 go_wp2_with(go_at_call 106;refine Calls.mono (jR.out _ U0.out.drew'.au.tail.tail.tail.tail) ?_;rintro en w1 ⟨rfl,h',hq,u1⟩;have U1:=Lib.hid (aj.dP (x:=[(C, .cells (ai aT) 35 (0,0)),(A, .cells (ai aT) 35 (0,0)),(B, .cells (ak ⟨4,a,b,c,v⟩) 38 (0,0)),(ph,aC pc)]) U0.out.drew' u1);have X1:=aW (x:=aT) (y:=⟨4,a,b,c,v⟩) U1.out.drop1;(obtain⟨d0,d1,d2,d3⟩:=bK (x:=aT) U1.out.au.head);(obtain⟨f0,f1,f2,f3⟩:=jW (x:=aT) U1.out.au.head);(obtain⟨e0,e1,e2,e3⟩:=X1.2.2.1);(obtain⟨k0,k1,k2,k3⟩:=X1.2.2.2);simp only[aT]at d0 d1 d2 d3 e0 e1 e2 e3)
 have U2:=Lib.hid (aj.WX (x:=aT) U1.out q)
 have U3:=Lib.hid (aj.SE U2.out e)
 have X2:=aW (x:=aT) (y:=⟨4,a,b,c,v⟩) U2.out.drop1
 have X3:=aW (x:=aT) (y:=⟨4,a,b,c,v⟩) U3.out.drop1
 try go_wp2_with fail
 refine hK.out _ _ (⟨X1.1,X1.2.1.2.1,X1.2.1.2.2.1⟩) (fun hHeld=> ?_)
 clear hK K
 try simp only[Act.put,List.setIfInBounds_toArray,List.set_cons_zero,List.set_cons_succ]
 refine tk 9 ?_
 refine tk 10 ?_
 refine tk 11 ?_
 refine tk 12 ?_
 try simp only[Act.put,List.setIfInBounds_toArray,List.set_cons_zero,List.set_cons_succ]
 refine wpAnyH_ready (rs:=[13]) (by kernel_rfl) (by simp) ?_
 refine AllReadyH.cons (o:=_) rfl (fun K hK=> ?_) AllReadyH.nil
 go_simp
 skip
 try go_wp2_with fail
 refine hK.out _ _ (⟨X2.1,X2.2.1.2.1,X2.2.1.2.2.1⟩) (fun hHeld=> ?_)
 clear hK K
 try simp only[Act.put,List.setIfInBounds_toArray,List.set_cons_zero,List.set_cons_succ]
 refine tk 14 ?_
 try simp only[Act.put,List.setIfInBounds_toArray,List.set_cons_zero,List.set_cons_succ]
 refine wpAnyH_ready (rs:=[15]) (by kernel_rfl) (by simp) ?_
 refine AllReadyH.cons (o:=_) rfl (fun K hK=> ?_) AllReadyH.nil
 go_simp
 skip
 try go_wp2_with fail
 refine hK.out _ _ (⟨X3.1,X3.2.1.2.1,X3.2.1.2.2.1⟩) (fun hHeld=> ?_)
 clear hK K
 try simp only[Act.put,List.setIfInBounds_toArray,List.set_cons_zero,List.set_cons_succ]
 refine wpAnyH_done (by kernel_rfl) ?_ _
 go_simp
 go_wp2
 have UF:=aj.lV (x:=aT) (U3.out).drop1 ⟨e,false,0,q⟩
 have G:=bK UF.au.head
 simp only at G
 obtain⟨g0,g1,g2,g3⟩:=G
 clear d0 d1 d2 d3 f0 f1 f2 f3 e0 e1 e2 e3 k0 k1 k2 k3 X1 hS0
 refine bodyPost_ret (v:= .agg (ai ⟨e,false,0,q⟩)) ?_ rfl ⟨rfl,h',hq,UF.drop1.drop1⟩
 simp only[results,Tryz.results55]
 simp[go_sem,ai,g0,g1,g2,g3]
theorem Oj(ph pc:Nat)(a b c v:Int)(y:Bool)(e:Int)(w:World)(h:Hp)(Q:Hp->Prop)(hi:In w ((ph,aC pc)::h))
  (hcall: ∀W,In W h->Calls Tryz.prog 107 #[ptr pc, .int .i64 a, .int .i64 b] W fun en w'=>en= .returned (.tuple #[.bool y, .int .i64 e])/\ ∃h',Q h'/\aj h h' W w'):
  Calls Tryz.prog 55 #[.pointer (some ⟨ph,0,none⟩), .agg (ak ⟨8,a,b,c,v⟩)] w fun en w'=>en= .returned (.agg (ai ⟨e,y,0,0⟩))/\ ∃h',Q h'/\aj ((ph,aC pc)::h) ((ph,aC pc)::h') w w':=by
 have U0:=(((aj.refl hi).alloc' (.cells (ak ⟨8,a,b,c,v⟩) 38 (0,0))).alloc' (.cells (ai aT) 35 (0,0))).alloc' (.cells (ai aT) 35 (0,0))
 have hs1:(w.alloc (.cells (ak ⟨8,a,b,c,v⟩) 38 (0,0))).heap.size=w.heap.size+1:=by simp
 have hs2:((w.alloc (.cells (ak ⟨8,a,b,c,v⟩) 38 (0,0))).alloc (.cells (ai aT) 35 (0,0))).heap.size=w.heap.size+1+1:=by simp
 rw[hs1,hs2]at U0
 clear hs1 hs2
 have own:w.cell? ⟨ph,0,none⟩=some (.pointer (some ⟨pc,0,none⟩)):=cell_of hi.head 0
 have hpl:ph<w.heap.size:=World.block_lt_of_cell? _ _ own
 have hn1:w.heap.size+1+1≠w.heap.size+1:=by omega
 have hn2:w.heap.size+1≠w.heap.size+1+1:=by omega
 have U0:=Lib.hid U0
 have jR:=Lib.hid hcall
 clear hcall hi
 simp only[ptr]at jR
 go_enter Tryz.func55,Tryz.ntmps55
 simp only[ak]
 go_wp2
 have X0:=aW (x:=aT) (y:=⟨8,a,b,c,v⟩) U0.out.drew'.drop1
 simp only[ak,ai,aT]at U0 X0
 clear own hpl
 generalize hW:((w.alloc (.cells #[.int .i64 8, .int .i64 a, .int .i64 b, .int .i64 c, .int .u64 v] 38 (0,0))).alloc (.cells #[.int .i64 0, .bool false, .int .i64 0, .int .u64 0] 35 (0,0))).alloc (.cells #[.int .i64 0, .bool false, .int .i64 0, .int .u64 0] 35 (0,0))=W at*
 generalize w.heap.size+1+1=C at*
 generalize w.heap.size+1=A at*
 generalize w.heap.size=B at*
 clear hW
 have hS0:W.drew.cell? ⟨ph,0,none⟩=some (.pointer (some ⟨pc,0,none⟩))/\W.drew.cell? ⟨B,1,none⟩=some (.int .i64 a)/\W.drew.cell? ⟨B,2,none⟩=some (.int .i64 b):=⟨X0.1,X0.2.1.2.1,X0.2.1.2.2.1⟩
 have U0:Hid (aj ((ph,aC pc)::h) ((C, .cells (ai aT) 35 (0,0))::(A, .cells (ai aT) 35 (0,0))::(B, .cells (ak ⟨8,a,b,c,v⟩) 38 (0,0))::(ph,aC pc)::h) w W):=U0
 clear X0
 refine wp_region_held_drew (S:=fun w'=>w'.cell? ⟨ph,0,none⟩=some (.pointer (some ⟨pc,0,none⟩))/\w'.cell? ⟨B,1,none⟩=some (.int .i64 a)/\w'.cell? ⟨B,2,none⟩=some (.int .i64 b)) (by kernel_rfl) (hS0) (fun hHeld=> ?_)
 refine tk 0 ?_
 refine tk 1 ?_
 refine tk 2 ?_
 refine tk 3 ?_
 refine tk 4 ?_
 refine tk 5 ?_
 refine tk 6 ?_
 refine tk 7 ?_
 refine tk 8 ?_
 try simp only[Act.put,List.setIfInBounds_toArray,List.set_cons_zero,List.set_cons_succ]
 refine wpAnyH_ready (rs:=[9]) (by kernel_rfl) (by simp) ?_
 refine AllReadyH.cons (o:=_) rfl (fun K hK=> ?_) AllReadyH.nil
 go_simp
 go_wp2_with(go_at_call 107;refine Calls.mono (jR.out _ U0.out.drew'.au.tail.tail.tail.tail) ?_;rintro en w1 ⟨rfl,h',hq,u1⟩;have U1:=Lib.hid (aj.dP (x:=[(C, .cells (ai aT) 35 (0,0)),(A, .cells (ai aT) 35 (0,0)),(B, .cells (ak ⟨8,a,b,c,v⟩) 38 (0,0)),(ph,aC pc)]) U0.out.drew' u1);have X1:=aW (x:=aT) (y:=⟨8,a,b,c,v⟩) U1.out.drop1;(obtain⟨d0,d1,d2,d3⟩:=bK (x:=aT) U1.out.au.head);(obtain⟨f0,f1,f2,f3⟩:=jW (x:=aT) U1.out.au.head);(obtain⟨e0,e1,e2,e3⟩:=X1.2.2.1);(obtain⟨k0,k1,k2,k3⟩:=X1.2.2.2);simp only[aT]at d0 d1 d2 d3 e0 e1 e2 e3)
 have U2:=Lib.hid (aj.WW (x:=aT) U1.out y)
 have U3:=Lib.hid (aj.SE U2.out e)
 have X2:=aW (x:=aT) (y:=⟨8,a,b,c,v⟩) U2.out.drop1
 have X3:=aW (x:=aT) (y:=⟨8,a,b,c,v⟩) U3.out.drop1
 try go_wp2_with fail
 refine hK.out _ _ (⟨X1.1,X1.2.1.2.1,X1.2.1.2.2.1⟩) (fun hHeld=> ?_)
 clear hK K
 try simp only[Act.put,List.setIfInBounds_toArray,List.set_cons_zero,List.set_cons_succ]
 refine tk 10 ?_
 refine tk 11 ?_
 refine tk 12 ?_
 refine tk 13 ?_
 try simp only[Act.put,List.setIfInBounds_toArray,List.set_cons_zero,List.set_cons_succ]
 refine wpAnyH_ready (rs:=[14]) (by kernel_rfl) (by simp) ?_
 refine AllReadyH.cons (o:=_) rfl (fun K hK=> ?_) AllReadyH.nil
 go_simp
 skip
 try go_wp2_with fail
 refine hK.out _ _ (⟨X2.1,X2.2.1.2.1,X2.2.1.2.2.1⟩) (fun hHeld=> ?_)
 clear hK K
 try simp only[Act.put,List.setIfInBounds_toArray,List.set_cons_zero,List.set_cons_succ]
 refine tk 15 ?_
 try simp only[Act.put,List.setIfInBounds_toArray,List.set_cons_zero,List.set_cons_succ]
 refine wpAnyH_ready (rs:=[16]) (by kernel_rfl) (by simp) ?_
 refine AllReadyH.cons (o:=_) rfl (fun K hK=> ?_) AllReadyH.nil
 go_simp
 skip
 try go_wp2_with fail
 refine hK.out _ _ (⟨X3.1,X3.2.1.2.1,X3.2.1.2.2.1⟩) (fun hHeld=> ?_)
 clear hK K
 try simp only[Act.put,List.setIfInBounds_toArray,List.set_cons_zero,List.set_cons_succ]
 refine wpAnyH_done (by kernel_rfl) ?_ _
 go_simp
 go_wp2
 have UF:=aj.lV (x:=aT) (U3.out).drop1 ⟨e,y,0,0⟩
 have G:=bK UF.au.head
 simp only at G
 obtain⟨g0,g1,g2,g3⟩:=G
 clear d0 d1 d2 d3 f0 f1 f2 f3 e0 e1 e2 e3 k0 k1 k2 k3 X1 hS0
 refine bodyPost_ret (v:= .agg (ai ⟨e,y,0,0⟩)) ?_ rfl ⟨rfl,h',hq,UF.drop1.drop1⟩
 simp only[results,Tryz.results55]
 simp[go_sem,ai,g0,g1,g2,g3]
theorem Qx(ph pc:Nat)(a b c v:Int)(y:Bool)(e:Int)(w:World)(h:Hp)(Q:Hp->Prop)(hi:In w ((ph,aC pc)::h))
  (hcall: ∀W,In W h->Calls Tryz.prog 108 #[ptr pc, .int .i64 a] W fun en w'=>en= .returned (.tuple #[.bool y, .int .i64 e])/\ ∃h',Q h'/\aj h h' W w'):
  Calls Tryz.prog 55 #[.pointer (some ⟨ph,0,none⟩), .agg (ak ⟨9,a,b,c,v⟩)] w fun en w'=>en= .returned (.agg (ai ⟨e,y,0,0⟩))/\ ∃h',Q h'/\aj ((ph,aC pc)::h) ((ph,aC pc)::h') w w':=by
 have U0:=(((aj.refl hi).alloc' (.cells (ak ⟨9,a,b,c,v⟩) 38 (0,0))).alloc' (.cells (ai aT) 35 (0,0))).alloc' (.cells (ai aT) 35 (0,0))
 have hs1:(w.alloc (.cells (ak ⟨9,a,b,c,v⟩) 38 (0,0))).heap.size=w.heap.size+1:=by simp
 have hs2:((w.alloc (.cells (ak ⟨9,a,b,c,v⟩) 38 (0,0))).alloc (.cells (ai aT) 35 (0,0))).heap.size=w.heap.size+1+1:=by simp
 rw[hs1,hs2]at U0
 clear hs1 hs2
 have own:w.cell? ⟨ph,0,none⟩=some (.pointer (some ⟨pc,0,none⟩)):=cell_of hi.head 0
 have hpl:ph<w.heap.size:=World.block_lt_of_cell? _ _ own
 have hn1:w.heap.size+1+1≠w.heap.size+1:=by omega
 have hn2:w.heap.size+1≠w.heap.size+1+1:=by omega
 have U0:=Lib.hid U0
 have jR:=Lib.hid hcall
 clear hcall hi
 simp only[ptr]at jR
 go_enter Tryz.func55,Tryz.ntmps55
 simp only[ak]
 go_wp2
 have X0:=aW (x:=aT) (y:=⟨9,a,b,c,v⟩) U0.out.drew'.drop1
 simp only[ak,ai,aT]at U0 X0
 clear own hpl
 generalize hW:((w.alloc (.cells #[.int .i64 9, .int .i64 a, .int .i64 b, .int .i64 c, .int .u64 v] 38 (0,0))).alloc (.cells #[.int .i64 0, .bool false, .int .i64 0, .int .u64 0] 35 (0,0))).alloc (.cells #[.int .i64 0, .bool false, .int .i64 0, .int .u64 0] 35 (0,0))=W at*
 generalize w.heap.size+1+1=C at*
 generalize w.heap.size+1=A at*
 generalize w.heap.size=B at*
 clear hW
 have hS0:W.drew.cell? ⟨ph,0,none⟩=some (.pointer (some ⟨pc,0,none⟩))/\W.drew.cell? ⟨B,1,none⟩=some (.int .i64 a):=⟨X0.1,X0.2.1.2.1⟩
 have U0:Hid (aj ((ph,aC pc)::h) ((C, .cells (ai aT) 35 (0,0))::(A, .cells (ai aT) 35 (0,0))::(B, .cells (ak ⟨9,a,b,c,v⟩) 38 (0,0))::(ph,aC pc)::h) w W):=U0
 clear X0
 refine wp_region_held_drew (S:=fun w'=>w'.cell? ⟨ph,0,none⟩=some (.pointer (some ⟨pc,0,none⟩))/\w'.cell? ⟨B,1,none⟩=some (.int .i64 a)) (by kernel_rfl) (hS0) (fun hHeld=> ?_)
 refine tk 0 ?_
 refine tk 1 ?_
 refine tk 2 ?_
 refine tk 3 ?_
 refine tk 4 ?_
 refine tk 5 ?_
 refine tk 6 ?_
 try simp only[Act.put,List.setIfInBounds_toArray,List.set_cons_zero,List.set_cons_succ]
 refine wpAnyH_ready (rs:=[7]) (by kernel_rfl) (by simp) ?_
 refine AllReadyH.cons (o:=_) rfl (fun K hK=> ?_) AllReadyH.nil
 go_simp
 go_wp2_with(go_at_call 108;refine Calls.mono (jR.out _ U0.out.drew'.au.tail.tail.tail.tail) ?_;rintro en w1 ⟨rfl,h',hq,u1⟩;have U1:=Lib.hid (aj.dP (x:=[(C, .cells (ai aT) 35 (0,0)),(A, .cells (ai aT) 35 (0,0)),(B, .cells (ak ⟨9,a,b,c,v⟩) 38 (0,0)),(ph,aC pc)]) U0.out.drew' u1);have X1:=aW (x:=aT) (y:=⟨9,a,b,c,v⟩) U1.out.drop1;(obtain⟨d0,d1,d2,d3⟩:=bK (x:=aT) U1.out.au.head);(obtain⟨f0,f1,f2,f3⟩:=jW (x:=aT) U1.out.au.head);(obtain⟨e0,e1,e2,e3⟩:=X1.2.2.1);(obtain⟨k0,k1,k2,k3⟩:=X1.2.2.2);simp only[aT]at d0 d1 d2 d3 e0 e1 e2 e3)
 have U2:=Lib.hid (aj.WW (x:=aT) U1.out y)
 have U3:=Lib.hid (aj.SE U2.out e)
 have X2:=aW (x:=aT) (y:=⟨9,a,b,c,v⟩) U2.out.drop1
 have X3:=aW (x:=aT) (y:=⟨9,a,b,c,v⟩) U3.out.drop1
 try go_wp2_with fail
 refine hK.out _ _ (⟨X1.1,X1.2.1.2.1⟩) (fun hHeld=> ?_)
 clear hK K
 try simp only[Act.put,List.setIfInBounds_toArray,List.set_cons_zero,List.set_cons_succ]
 refine tk 8 ?_
 refine tk 9 ?_
 refine tk 10 ?_
 refine tk 11 ?_
 try simp only[Act.put,List.setIfInBounds_toArray,List.set_cons_zero,List.set_cons_succ]
 refine wpAnyH_ready (rs:=[12]) (by kernel_rfl) (by simp) ?_
 refine AllReadyH.cons (o:=_) rfl (fun K hK=> ?_) AllReadyH.nil
 go_simp
 skip
 try go_wp2_with fail
 refine hK.out _ _ (⟨X2.1,X2.2.1.2.1⟩) (fun hHeld=> ?_)
 clear hK K
 try simp only[Act.put,List.setIfInBounds_toArray,List.set_cons_zero,List.set_cons_succ]
 refine tk 13 ?_
 try simp only[Act.put,List.setIfInBounds_toArray,List.set_cons_zero,List.set_cons_succ]
 refine wpAnyH_ready (rs:=[14]) (by kernel_rfl) (by simp) ?_
 refine AllReadyH.cons (o:=_) rfl (fun K hK=> ?_) AllReadyH.nil
 go_simp
 skip
 try go_wp2_with fail
 refine hK.out _ _ (⟨X3.1,X3.2.1.2.1⟩) (fun hHeld=> ?_)
 clear hK K
 try simp only[Act.put,List.setIfInBounds_toArray,List.set_cons_zero,List.set_cons_succ]
 refine wpAnyH_done (by kernel_rfl) ?_ _
 go_simp
 go_wp2
 have UF:=aj.lV (x:=aT) (U3.out).drop1 ⟨e,y,0,0⟩
 have G:=bK UF.au.head
 simp only at G
 obtain⟨g0,g1,g2,g3⟩:=G
 clear d0 d1 d2 d3 f0 f1 f2 f3 e0 e1 e2 e3 k0 k1 k2 k3 X1 hS0
 refine bodyPost_ret (v:= .agg (ai ⟨e,y,0,0⟩)) ?_ rfl ⟨rfl,h',hq,UF.drop1.drop1⟩
 simp only[results,Tryz.results55]
 simp[go_sem,ai,g0,g1,g2,g3]
theorem Kr(ph pc:Nat)(a b c v:Int)(n:Int)(m:Int)(e:Int)(w:World)(h:Hp)(Q:Hp->Prop)(hi:In w ((ph,aC pc)::h))
  (hcall: ∀W,In W h->Calls Tryz.prog 109 #[ptr pc, .int .i64 a] W fun en w'=>en= .returned (.tuple #[.int .i64 n, .int .i64 m, .int .i64 e])/\ ∃h',Q h'/\aj h h' W w'):
  Calls Tryz.prog 55 #[.pointer (some ⟨ph,0,none⟩), .agg (ak ⟨10,a,b,c,v⟩)] w fun en w'=>en= .returned (.agg (ai ⟨e,false,n,u64 m⟩))/\ ∃h',Q h'/\aj ((ph,aC pc)::h) ((ph,aC pc)::h') w w':=by
 have U0:=(((aj.refl hi).alloc' (.cells (ak ⟨10,a,b,c,v⟩) 38 (0,0))).alloc' (.cells (ai aT) 35 (0,0))).alloc' (.cells (ai aT) 35 (0,0))
 have hs1:(w.alloc (.cells (ak ⟨10,a,b,c,v⟩) 38 (0,0))).heap.size=w.heap.size+1:=by simp
 have hs2:((w.alloc (.cells (ak ⟨10,a,b,c,v⟩) 38 (0,0))).alloc (.cells (ai aT) 35 (0,0))).heap.size=w.heap.size+1+1:=by simp
 rw[hs1,hs2]at U0
 clear hs1 hs2
 have own:w.cell? ⟨ph,0,none⟩=some (.pointer (some ⟨pc,0,none⟩)):=cell_of hi.head 0
 have hpl:ph<w.heap.size:=World.block_lt_of_cell? _ _ own
 have hn1:w.heap.size+1+1≠w.heap.size+1:=by omega
 have hn2:w.heap.size+1≠w.heap.size+1+1:=by omega
 have U0:=Lib.hid U0
 have jR:=Lib.hid hcall
 have hwr:IntKind.u64.wrap m=u64 m:=IntKind.wrap_u64 _
 clear hcall hi
 simp only[ptr]at jR
 go_enter Tryz.func55,Tryz.ntmps55
 simp only[ak]
 go_wp2
 have X0:=aW (x:=aT) (y:=⟨10,a,b,c,v⟩) U0.out.drew'.drop1
 simp only[ak,ai,aT]at U0 X0
 clear own hpl
 generalize hW:((w.alloc (.cells #[.int .i64 10, .int .i64 a, .int .i64 b, .int .i64 c, .int .u64 v] 38 (0,0))).alloc (.cells #[.int .i64 0, .bool false, .int .i64 0, .int .u64 0] 35 (0,0))).alloc (.cells #[.int .i64 0, .bool false, .int .i64 0, .int .u64 0] 35 (0,0))=W at*
 generalize w.heap.size+1+1=C at*
 generalize w.heap.size+1=A at*
 generalize w.heap.size=B at*
 clear hW
 have hS0:W.drew.cell? ⟨ph,0,none⟩=some (.pointer (some ⟨pc,0,none⟩))/\W.drew.cell? ⟨B,1,none⟩=some (.int .i64 a):=⟨X0.1,X0.2.1.2.1⟩
 have U0:Hid (aj ((ph,aC pc)::h) ((C, .cells (ai aT) 35 (0,0))::(A, .cells (ai aT) 35 (0,0))::(B, .cells (ak ⟨10,a,b,c,v⟩) 38 (0,0))::(ph,aC pc)::h) w W):=U0
 clear X0
 refine wp_region_held_drew (S:=fun w'=>w'.cell? ⟨ph,0,none⟩=some (.pointer (some ⟨pc,0,none⟩))/\w'.cell? ⟨B,1,none⟩=some (.int .i64 a)) (by kernel_rfl) (hS0) (fun hHeld=> ?_)
 refine tk 0 ?_
 refine tk 1 ?_
 refine tk 2 ?_
 refine tk 3 ?_
 refine tk 4 ?_
 refine tk 5 ?_
 try simp only[Act.put,List.setIfInBounds_toArray,List.set_cons_zero,List.set_cons_succ]
 refine wpAnyH_ready (rs:=[6]) (by kernel_rfl) (by simp) ?_
 refine AllReadyH.cons (o:=_) rfl (fun K hK=> ?_) AllReadyH.nil
 go_simp
 go_wp2_with(go_at_call 109;refine Calls.mono (jR.out _ U0.out.drew'.au.tail.tail.tail.tail) ?_;rintro en w1 ⟨rfl,h',hq,u1⟩;have U1:=Lib.hid (aj.dP (x:=[(C, .cells (ai aT) 35 (0,0)),(A, .cells (ai aT) 35 (0,0)),(B, .cells (ak ⟨10,a,b,c,v⟩) 38 (0,0)),(ph,aC pc)]) U0.out.drew' u1);have X1:=aW (x:=aT) (y:=⟨10,a,b,c,v⟩) U1.out.drop1;(obtain⟨d0,d1,d2,d3⟩:=bK (x:=aT) U1.out.au.head);(obtain⟨f0,f1,f2,f3⟩:=jW (x:=aT) U1.out.au.head);(obtain⟨e0,e1,e2,e3⟩:=X1.2.2.1);(obtain⟨k0,k1,k2,k3⟩:=X1.2.2.2);simp only[aT]at d0 d1 d2 d3 e0 e1 e2 e3)
 try go_wp2_with fail
 refine hK.out _ _ (⟨X1.1,X1.2.1.2.1⟩) (fun hHeld=> ?_)
 clear hK K
 try simp only[Act.put,List.setIfInBounds_toArray,List.set_cons_zero,List.set_cons_succ]
 refine tk 7 ?_
 refine tk 8 ?_
 refine tk 9 ?_
 refine tk 10 ?_
 refine tk 11 ?_
 refine tk 12 ?_
 refine tk 13 ?_
 try simp only[Act.put,List.setIfInBounds_toArray,List.set_cons_zero,List.set_cons_succ]
 refine wpAnyH_done (by kernel_rfl) ?_ _
 go_simp
 go_wp2
 have UF:=aj.lV (x:=aT) ((aj.SE (aj.WX (aj.Y1 (x:=aT) U1.out n) (u64 m)) e)).drop1 ⟨e,false,n,u64 m⟩
 have G:=bK UF.au.head
 simp only at G
 obtain⟨g0,g1,g2,g3⟩:=G
 clear d0 d1 d2 d3 f0 f1 f2 f3 e0 e1 e2 e3 k0 k1 k2 k3 X1 hS0
 refine bodyPost_ret (v:= .agg (ai ⟨e,false,n,u64 m⟩)) ?_ rfl ⟨rfl,h',hq,UF.drop1.drop1⟩
 simp only[results,Tryz.results55]
 simp[go_sem,ai,g0,g1,g2,g3]
theorem Kt(R:Value)(k a b c v:Int)(h1:k≠4)(h2:k≠8)(h3:k≠9)(h4:k≠10)(w:World)(h:Hp)(hi:In w h):
  Calls Tryz.prog 55 #[R, .agg (ak ⟨k,a,b,c,v⟩)] w fun en w'=>en= .returned (.agg (ai ⟨1,false,0,0⟩))/\aj h h w w':=by
 have U0:=(((aj.refl hi).alloc' (.cells (ak ⟨k,a,b,c,v⟩) 38 (0,0))).alloc' (.cells (ai ⟨1,false,0,0⟩) 35 (0,0))).alloc' (.cells (ai ⟨1,false,0,0⟩) 35 (0,0))
 have n1:(k==4)=false:=by simpa using h1
 have n2:(k==8)=false:=by simpa using h2
 have n3:(k==9)=false:=by simpa using h3
 have n4:(k==10)=false:=by simpa using h4
 have hs1:(w.alloc (.cells (ak ⟨k,a,b,c,v⟩) 38 (0,0))).heap.size=w.heap.size+1:=by simp
 have hs2:((w.alloc (.cells (ak ⟨k,a,b,c,v⟩) 38 (0,0))).alloc (.cells (ai ⟨1,false,0,0⟩) 35 (0,0))).heap.size=w.heap.size+1+1:=by simp
 rw[hs1,hs2]at U0
 clear hs1 hs2 h1 h2 h3 h4
 have U9:=Lib.hid U0.drop1
 have hn1:w.heap.size+1+1≠w.heap.size+1:=by omega
 have hn2:w.heap.size+1≠w.heap.size+1+1:=by omega
 simp only[ak,ai,aT]at*
 go_enter Tryz.func55,Tryz.ntmps55
 go_wp2
 have G:=bK (x:=⟨1,false,0,0⟩) U9.out.au.head
 simp only at G
 obtain⟨g0,g1,g2,g3⟩:=G
 refine bodyPost_ret (v:= .agg (ai ⟨1,false,0,0⟩)) ?_ rfl ⟨rfl,U9.out.drop1.drop1⟩
 simp only[results,Tryz.results55]
 simp[go_sem,ai,g0,g1,g2,g3]
end Go.Proofs.YtibemcgdmembeaaGreat
