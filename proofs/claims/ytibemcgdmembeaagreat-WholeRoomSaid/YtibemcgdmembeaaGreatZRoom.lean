/- WholeRoom of the topmost statements' package answers true, whatever the input: the given statement. Conditions: none. -/
import Derived.Test.YtibemcgdmembeaaGreatRows
import Derived.Test.YtibemcgdmembeaaGreatZL
import Derived.Test.YtibemcgdmembeaaGreatZTop
set_option linter.unusedVariables false
set_option linter.unusedSimpArgs false
set_option maxRecDepth 100000
set_option maxHeartbeats 4000000
namespace Go.Proofs.YtibemcgdmembeaaGreat
open Go.RowKit
theorem DJ(a b c d:Int)(sv:Value)(l:List lM)(ha:U8 a)(hb:U8 b)(hc:U8 c)(hd:U8 d){w:World}(hs:xy w sv l):
  Calls Tryz.prog 5 #[.int .u8 a, .int .u8 b, .int .u8 c, .int .u8 d,sv] w fun e w'=>e= .returned (.bool true)/\aj [] [] w w':=by
 have hok:=Ar ha hb hc hd
 have Au:=CZ a b c d ha hb hc hd w
 obtain⟨hfit,hlen,ao,cap,rfl,hsh⟩:=hs
 have HSc:=Lib.hid hsh
 have VT:Hid (∀k (h:k<l.length),(l[k]).Xy):=Lib.hid (fun k h=>by
  obtain⟨f0,f1,f2,f3,f4⟩:=hfit _ (List.getElem_mem h)
  exact⟨r_ f1,r_ f2,r_ f3,IX f4⟩)
 have hst:0<=(fO a b c d).stack:=by
  obtain⟨c1,c2⟩:=hc
  show 0<=c/16 % 4+1
  omega
 clear ha hb hc hd hsh hfit
 generalize fO a b c d=C at*
 have HR0:=Lib.hid (xw (gX.fits hok) hst)
 have VU:=Lib.hid hok
 clear hok hst
 have hn:=fun W=>uu C VU.out W
 simp only[aN]at Au hn
 go_enter Tryz.func5,Tryz.ntmps5
 go_wp2_with(first
  | (go_at_call 26;refine Calls.mono Au ?_;rintro e v0 ⟨rfl,x0⟩;clear Au)
  | (go_at_call 17;refine Calls.mono (hn _) ?_;rintro e w0 ⟨ph,pc,L,h0,rfl,c0,u0⟩;have U0:=x0.trans u0;clear x0 u0 hn)
  | (go_at_call 16;refine Calls.mono (Ov _) ?_;rintro e w1 ⟨rfl,x1⟩;have U1:=U0.dK x1;clear U0 x1))
 have HS:Hid (LU ph pc L C 0 w w1):=Lib.hid ⟨gJ C,Df C,h0,HR0.out,Nat.le_refl _,c0,U1⟩
 clear U1 c0 HR0
 go_loopw [13] (fun q wr=> ∃(k:Nat),k<=l.length/\k<=150/\q= .int .i64 k/\Hid (LU ph pc L C k w wr)) (fun q _=>l.length-(intOf q).toNat)
 case atStart=>exact⟨0,by omega,by omega,rfl,HS⟩
 case round=>
  obtain⟨k,hk,hk2,rfl,HW⟩:=hrel
  obtain⟨s,g,h,hR,hg,hC,hU⟩:=HW.out
  clear HS
  by_cases hlt:k<l.length
  ·by_cases VV:k<150
   ·obtain⟨bq,off,rfl,hbl,e0,e1,e2,e3,e4⟩:=HSc.out k hlt
    have HWr:=Lib.hid (fun W h (U:aj [] h w W)=>(⟨U.jT hbl e0,U.jT hbl e1,U.jT hbl e2,U.jT hbl e3,U.jT hbl e4⟩:W.cell? ⟨bq,off+k*5,none⟩=some (.int .i64 l[k].kind)/\W.cell? ⟨bq,off+k*5+1,none⟩=some (.int .i64 l[k].a)/\W.cell? ⟨bq,off+k*5+2,none⟩=some (.int .i64 l[k].b)/\W.cell? ⟨bq,off+k*5+3,none⟩=some (.int .i64 l[k].c)/\W.cell? ⟨bq,off+k*5+4,none⟩=some (.int .u64 l[k].v)))
    have hw:=VT.out k hlt
    generalize l[k]=x at*
    obtain⟨d0,d1,d2,d3,d4⟩:=HWr.out _ _ hU
    have hrs:=EI hR x
    have hT:=hR.tied
    have QN:=Lib.hid (fun W h (hi:In W ((ph,aC pc)::h)) (hc:ah pc L s h)=>mQ ph pc L hT x hw W h hi hc)
    obtain⟨x1,x2,x3,x4,x5⟩:=x
    simp only at d0 d1 d2 d3 d4 HWr
    generalize hA:jc s ⟨x1,x2,x3,x4,x5⟩=A at*
    generalize jS s ⟨x1,x2,x3,x4,x5⟩=s' at*
    obtain⟨A1,A2,A3,A4⟩:=A
    simp only at hrs
    obtain⟨hr1,hr2⟩:=hrs
    have HU:=Lib.hid hU
    have HC:=Lib.hid hC
    simp only[ak,ai]at QN
    clear e0 e1 e2 e3 e4 hU hC HW hA hw hT
    by_cases hx1:x1=1
    ·subst hx1
     obtain⟨rfl,rfl,rfl,hr3⟩:=hr2 rfl
     have hsz:=EH hR
     have Zk:=HC.out.facts.1
     have HWk:=Lib.hid (fun W h (hi:In W h) (hc:ah pc L s h)=>Aq pc L hR (by omega) W h hi hc)
     have Xj:=Lib.hid (fun(he:A1≠0) W h (hi:In W h) (hc:ah pc L s' h)=>Aq pc L (g:=g) (hr3 he) (by omega) W h hi hc)
     have HR1:=Lib.hid hr1
     have HR2:=Lib.hid hr3
     have XJ:=Lib.hid (fun va vx vb vy W (h1:mV W va g.qF) (h2:pK W vx g.xx) (h3:mV W vb g.qF) (h4:pK W vy g.xx)=>Qs va vx vb vy g.qF g.xx (by omega) (by omega) hsz.2.1 W h1 h2 h3 h4)
     have FW:=fun W hb=>ve ph pc W hb
     simp only[ptr]at HWk Xj FW
     clear hr1 hr2 hr3 hsz Zk hR
     by_cases hA1:A1=0
     ·subst hA1
      go_wp2_with(first
       | (go_at_call 23;refine Calls.mono (FW _ HU.out.au.head) ?_;rintro e w2 ⟨rfl,rfl⟩)
       | (go_at_call 22;(refine Calls.mono (HWk.out _ _ HU.out.au.tail HC.out) ?_;rintro e w3 ⟨v1,v2,hx,h3,rfl,c3,u3,hat⟩;have U3:=Lib.hid (HU.out.trans ((u3.beside (k:=[(ph,aC pc)]) (HU.out.au.perm (List.perm_append_comm (l₁:=[_])))).perm (List.perm_append_comm (l₂:=[_])) (by rw[List.append_assoc])));have C3:=Lib.hid c3;obtain⟨y0,y1,y2,y3,y4⟩:=HWr.out _ _ U3.out;clear u3 c3))
       | (go_at_call 19;(refine Calls.mono (QN.out _ _ (U3.out.au.right.perm (List.perm_append_comm (l₂:=[_]))) C3.out) ?_;rintro e w4 ⟨rfl,h4,c4,u4⟩;have C4:=Lib.hid c4;have U4:=Lib.hid ((aj.dP U3.out (u4.perm (List.perm_append_comm (l₁:=[_])) (List.Perm.refl _))).forget (List.sublist_append_right _ _));clear u4 c4)))
      go_roundw
      case rel=>
       obtain⟨g',q1,q2⟩:=HR1.out (by first|exact .inr rfl|exact .inr trivial|simp)
       exact⟨k+1,by omega,by omega,by go_num,Lib.hid ⟨s',g',h4,q1,by omega,C4.out,U4.out.skip' _⟩⟩
      case measure=>simp[intOf];omega
     ·have HA1:=Lib.hid hA1
      go_wp2_with(first
       | (go_at_call 23;with_reducible refine Calls.mono (FW _ HU.out.au.head) ?_;rintro e w2 ⟨rfl,rfl⟩)
       | (go_at_call 23;with_reducible refine Calls.mono (FW _ hb5) ?_;rintro e w5 ⟨rfl,rfl⟩)
       | (go_at_call 22;with_reducible refine Calls.mono (HWk.out _ _ HU.out.au.tail HC.out) ?_;rintro e w3 ⟨v1,v2,hx,h3,rfl,c3,u3,hat⟩;have U3:=Lib.hid (HU.out.trans ((u3.beside (k:=[(ph,aC pc)]) (HU.out.au.perm (List.perm_append_comm (l₁:=[_])))).perm (List.perm_append_comm (l₂:=[_])) (by rw[List.append_assoc])));have C3:=Lib.hid c3;have HAt:=Lib.hid hat;obtain⟨y0,y1,y2,y3,y4⟩:=HWr.out _ _ U3.out;clear u3 c3 hat)
       | (go_at_call 19;with_reducible refine Calls.mono (QN.out _ _ (U3.out.au.right.perm (List.perm_append_comm (l₂:=[_]))) C3.out) ?_;rintro e w4 ⟨rfl,h4,c4,u4⟩;have C4:=Lib.hid c4;have U4:=aj.dP U3.out (u4.perm (List.perm_append_comm (l₁:=[_])) (List.Perm.refl _));(have U5:Hid (aj [] (((w4.heap.size,(.cells #[.int .i64 A1, .bool false, .int .i64 0, .int .u64 0] 35 (0,0)))::(hx++[(ph,aC pc)]))++h4) w (w4.alloc (.cells #[.int .i64 A1, .bool false, .int .i64 0, .int .u64 0] 35 (0,0)))):=Lib.hid (by have:=U4.alloc' (.cells #[.int .i64 A1, .bool false, .int .i64 0, .int .u64 0] 35 (0,0));simpa using this));have hb5:(w4.alloc (.cells #[.int .i64 A1, .bool false, .int .i64 0, .int .u64 0] 35 (0,0))).heap[ph]? =some (aC pc):=U5.out.au.mem (by simp);clear u4 c4 U4)
       | (go_at_call 22;with_reducible refine Calls.mono (Xj.out HA1.out _ _ U5.out.au.right C4.out) ?_;rintro e w6 ⟨v3,v4,hx2,h6,rfl,c6,u6,Xk⟩;have C6:=Lib.hid c6;have U6:=Lib.hid (aj.dP U5.out u6);have Xl:=Lib.hid Xk;clear u6 c6 Xk)
       | (go_at_call 25;with_reducible refine Calls.mono (XJ.out v1 v2 v3 v4 _ (HAt.out _ U6.out.au.left.tail.left).1 (HAt.out _ U6.out.au.left.tail.left).2 (Xl.out _ U6.out.au.right.left).1 (Xl.out _ U6.out.au.right.left).2) ?_;rintro e w7 ⟨rfl,u7⟩;have U7:=Lib.hid (U6.out.dK u7);have z0:w7.cell? ⟨w4.heap.size,0,none⟩=some (.int .i64 A1):=cell_of U7.out.au.head 0;have z1:w7.cell? ⟨w4.heap.size,1,none⟩=some (.bool false):=cell_of U7.out.au.head 1;have z2:w7.cell? ⟨w4.heap.size,2,none⟩=some (.int .i64 0):=cell_of U7.out.au.head 2;have z3:w7.cell? ⟨w4.heap.size,3,none⟩=some (.int .u64 0):=cell_of U7.out.au.head 3;clear u7))
      go_roundw
      case rel=>exact⟨k+1,by omega,by omega,by go_num,Lib.hid ⟨s',g,h6,HR2.out HA1.out,by omega,C6.out,U7.out.forget (List.Sublist.append (l₁:=[(ph,aC pc)]) ((List.sublist_append_right hx [(ph,aC pc)]).cons _) (List.sublist_append_right hx2 h6))⟩⟩
      case measure=>simp[intOf];omega
    ·have HR1:=Lib.hid hr1
     have Ls:=Lib.hid hx1
     clear hr1 hr2 hR
     go_wp2_with(go_at_call 19;refine Calls.mono (QN.out _ _ HU.out.au HC.out) ?_;rintro e w4 ⟨rfl,h4,c4,u4⟩;have C4:=Lib.hid c4;have U4:=Lib.hid (HU.out.trans u4);clear u4 c4)
     go_roundw
     case rel=>
      obtain⟨g',q1,q2⟩:=HR1.out (.inl Ls.out)
      exact⟨k+1,by omega,by omega,by go_num,Lib.hid ⟨s',g',h4,q1,by omega,C4.out,U4.out⟩⟩
     case measure=>simp[intOf];omega
   ·have HU:=Lib.hid hU
    clear HW hU hC
    go_wp2
    go_ret
    exact⟨rfl,HU.out.forget (List.nil_sublist _)⟩
  ·have HU:=Lib.hid hU
   clear HW hU hC
   go_wp2
   go_ret
   exact⟨rfl,HU.out.forget (List.nil_sublist _)⟩
end Go.Proofs.YtibemcgdmembeaaGreat
namespace Go.Proofs.YtibemcgdmembeaaGreat
open Go.ChangeShapes Go.WideShapes Go.ChangeAt Go.RowKit
theorem zh(os:Os)(started:os.Started)(H:Type)(enc:TypeId×Value->H):
  ReturnsInHanded {} Tryz.checked os 5 .any (Rows.wholeRoomSpec.pre6 enc Tryz.prog Tryz.f5 Rows.wholeRoomRow.domain false) (Rows.wholeRoomSpec.post enc Tryz.prog Tryz.f5 false true false false):=by
 refine returnsInHanded_of_change (C:=Tryz.checked) Tryz.own started (by kernel_rfl) Tryz.func5
  (ChangeSpec.witness6 (enc:=enc) (C:=Tryz.checked) false ⟨#[],#[.int .u8 0, .int .u8 0, .int .u8 0, .int .u8 0, .slice none 0 0],[]⟩ 8 (by kernel_rfl) (by kernel_rfl) (by kernel_rfl) (by kernel_rfl)) ?_
 intro W base args ds gs before hval0 hW hcnd _
 have hval: ∀(j:Nat) t v,Tryz.f5.params[j]? =some t->args[j]? =some v->Value.okWide Tryz.prog W .any base t v:=hval0
 have hW':=hW
 obtain⟨p,q,hA0,hV,rfl,hfz,hnd⟩:=hW
 have hA:DataW.TrodAll enc Tryz.prog W 0 (fun _=>true) true Tryz.f5.params.toList args.toList ds p:=hA0
 rw[Tryz.params5]at hA hval
 obtain⟨v0,vs0,d0,ds0,p0,q0,hargs,rfl,rfl,h0,r0⟩:=trodAll_cons hA
 obtain⟨v1,vs1,d1,ds1,p1,q1,rfl,rfl,rfl,h1,r1⟩:=trodAll_cons r0
 obtain⟨v2,vs2,d2,ds2,p2,q2,rfl,rfl,rfl,h2,r2⟩:=trodAll_cons r1
 obtain⟨v3,vs3,d3,ds3,p3,q3,rfl,rfl,rfl,h3,r3⟩:=trodAll_cons r2
 obtain⟨v4,vs4,d4,ds4,p4,q4,rfl,rfl,rfl,h4,r4⟩:=trodAll_cons r3
 obtain⟨rfl,rfl,rfl⟩:=trodAll_nil r4
 obtain rfl:args=#[v0,v1,v2,v3,v4]:=by cases args;simp_all
 obtain⟨rfl,rfl⟩:=trodVars_none hV
 obtain⟨a0,rfl,rfl,rfl,w0⟩:=open_int Tryz.underlying5 (hval 0 5 v0 rfl rfl) h0
 obtain⟨a1,rfl,rfl,rfl,w1⟩:=open_int Tryz.underlying5 (hval 1 5 v1 rfl rfl) h1
 obtain⟨a2,rfl,rfl,rfl,w2⟩:=open_int Tryz.underlying5 (hval 2 5 v2 rfl rfl) h2
 obtain⟨a3,rfl,rfl,rfl,w3⟩:=open_int Tryz.underlying5 (hval 3 5 v3 rfl rfl) h3
 have k4:=h4
 have lt4: ∀x∈p4,x.block<W.heap.size:=by obtain⟨m,hm⟩:=k4;exact DataW.trod_lt m _ _ _ hm
 obtain⟨a4,w4⟩:=Ky (hval 4 24 v4 rfl rfl) h4
 clear hA0 hval0
 refine(DJ a0 a1 a2 a3 v4 a4 (LJ w0) (LJ w1) (LJ w2) (LJ w3) w4).mono fun e W' ⟨he,hu⟩=> ?_
 subst he
 exact⟨_,rfl,zQ (pv:=[]) hW' (fun _ _ _=>trodAll_cons_mk (shut_bool Tryz.underlying4 _) trodAll_mk0) (trodAll_cons_mk (shut_int Tryz.underlying5 w0) (trodAll_cons_mk (shut_int Tryz.underlying5 w1) (trodAll_cons_mk (shut_int Tryz.underlying5 w2) (trodAll_cons_mk (shut_int Tryz.underlying5 w3) (trodAll_cons_mk (Below.trod Tryz.laidOut (by kernel_rfl) (of_decide_eq_true (by kernel_rfl)) k4 hu.below lt4) trodAll_mk0))))) (fun _ _=>rfl) rfl
  (hu.below.frame _)⟩
theorem wholeRoom_holds:Rows.WholeRoomSaid:=
 OpenClaim.holds_of_wide 5 Tryz.f5 rfl rfl rfl rfl rfl rfl rfl ⟨rfl,rfl,rfl,rfl,rfl⟩ rfl rfl rfl rfl rfl (by kernel_rfl) Tryz.func5 (by kernel_rfl)
  (of_decide_eq_true (by kernel_rfl)) (by unfold Func.isWrapper;first|(rw[if_pos (by decide+kernel)];kernel_rfl)|(rw[if_neg (by decide+kernel)];exact⟨rfl,rfl⟩))
  (fun os started H enc _=>zh os started H enc)
#print axioms wholeRoom_holds
end Go.Proofs.YtibemcgdmembeaaGreat
