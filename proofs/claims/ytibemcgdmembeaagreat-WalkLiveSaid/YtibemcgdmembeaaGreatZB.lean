/- Plain facts on pages and cells: what Starts tells; a new space is empty. No program in sight. Conditions: pages as New and the calls make them. -/
import Derived.Test.YtibemcgdmembeaaGreatRows
import Derived.Test.YtibemcgdmembeaaGreatZN
import Derived.Test.YtibemcgdmembeaaGreatZA
import Derived.Deep.RegionHeld3
import Derived.Deep.RegionLaw
import Derived.Deep.RegionLawGrows
set_option linter.unusedVariables false
set_option linter.unusedSimpArgs false
set_option maxRecDepth 100000
set_option maxHeartbeats 4000000
namespace Go.Proofs.YtibemcgdmembeaaGreat
open Go.RowKit
theorem aj.VZ{w0 w w':World}{h0 x h h':Hp}(a:aj h0 (x++h) w0 w)(u:aj [] h' w w'):aj h0 ((h'++x)++h) w0 w':=by
 have:=a.more u
 rwa[<-List.append_assoc]at this
theorem ah.ptrs{pc:Nat}{L:aX}{s:af}{x h:Hp}{w:World}(hc:ah pc L s h)(hi:In w (x++h)):
  w.cell? ⟨pc,13,none⟩=some (ptr L.pa)/\w.cell? ⟨pc,14,none⟩=some (ptr L.py)/\w.cell? ⟨pc,15,none⟩=some (ptr L.po)/\w.cell? ⟨pc,16,none⟩=some (ptr L.pr)/\w.cell? ⟨pc,17,none⟩=some (ptr L.pg)/\w.cell? ⟨pc,18,none⟩=some (ptr L.pt):=by
 obtain⟨v,ha,hy,ho,hr,hg,ht,hw,rfl,ca,cy,co,cr,cg,ct,cw⟩:=hc
 exact aS (In.core hi)
theorem ah.vars{pc:Nat}{L:aX}{s:af}{x h:Hp}{w:World}(hc:ah pc L s h)(hi:In w (x++h)):
  w.cell? ⟨pc,20,none⟩=some (.int .i64 s.phase)/\w.cell? ⟨pc,21,none⟩=some (.bool s.aG):=by
 obtain⟨v,ha,hy,ho,hr,hg,ht,hw,rfl,ca,cy,co,cr,cg,ct,cw⟩:=hc
 exact⟨cell_of (In.core hi) 20,cell_of (In.core hi) 21⟩
theorem ah.facts{pc:Nat}{L:aX}{s:af}{h:Hp}(hc:ah pc L s h):s.t.length<=64/\ (∀x∈s.t,I64 x)/\s.ws.length<=1048576/\ (∀x∈s.ws,C_ x):=by
 obtain⟨v,ha,hy,ho,hr,hg,ht,hw,rfl,ca,cy,co,cr,cg,ct,cw⟩:=hc
 obtain⟨_,_,h1,h2⟩:=ct
 obtain⟨_,_,_,h3,h4⟩:=ca
 exact⟨h1,h2,h3,h4⟩
theorem xH(pc:Nat)(L:aX)(s:af)(w:World)(h:Hp)(hi:In w h)(hc:ah pc L s h):
  Calls Tryz.prog 65 #[.pointer (some ⟨L.pt,0,none⟩)] w fun e w'=> ∃v h',e= .returned v/\aK 3 1 v s.t.length (ints s.t) h'/\aj [] h' w w':=by
 obtain⟨v,ha,hy,ho,hr,hg,ht,hw,rfl,ca,cy,co,cr,cg,ct,cw⟩:=hc
 exact L9 L.pt s.t w ht (In.table (x:=[]) hi) ct
theorem aK.nH{T:TypeId}{ao:Option Addr}{n cap:Nat}{l:List Int}{h:Hp}{w:World}{kd:IntKind}(sl:aK T 1 (.slice ao n cap) n (l.map (Value.int kd)) h)(hi:In w h){k:Nat}(hk:k<n):
  ∃g off,ao=some ⟨g,off,none⟩/\w.cell? ⟨g,off+k,none⟩=some (.int kd (l.getD k 0)):=by
 obtain⟨g,off,cap',hv,_⟩:=sl.addr (by omega)
 have hl:k<l.length:=by have:=sl.1;simp at this;omega
 have hc:=sl.cell hi hv (j:=k) (by simpa using hl)
 simp only[Value.slice.injEq]at hv
 refine⟨g,off,hv.1, ?_⟩
 rw[hc]
 simp[List.getD,hl]
end Go.Proofs.YtibemcgdmembeaaGreat
namespace Go.Proofs.YtibemcgdmembeaaGreat
open Go.RowKit
theorem aK.rest{T:TypeId}{v:Value}{n:Nat}{x:Value}{xs:List Value}{h:Hp}(hs:aK T 1 v (n+1) (x::xs) h):
  ∃g off cap,v= .slice (some ⟨g,off,none⟩) (n+1) cap/\n+1<=cap/\aK T 1 (.slice (some ⟨g,if 1=cap then off else off+1,none⟩) n (cap-1)) n xs h:=by
 obtain⟨hl,hs⟩:=hs
 rcases hs with⟨_,h0,_⟩|⟨g,pre,post,cap,rfl,rfl,h1,h2,h3⟩
 ·cases h0
 ·refine⟨g,pre.length,cap,rfl,h1, ?_⟩
  simp at hl h2
  refine⟨by omega, .inr ?_⟩
  by_cases hc:1=cap
  ·rw[if_pos hc]
   obtain rfl:n=0:=by omega
   obtain rfl:xs=[]:=List.eq_nil_of_length_eq_zero (by omega)
   exact⟨g,pre,x::post,cap-1,rfl,by simp,by omega,by simp;omega,by omega⟩
  ·rw[if_neg hc]
   exact⟨g,pre++[x],post,cap-1,by simp,by simp,by omega,by omega,by omega⟩
def jL.di(s:jL):Int:=s.list.headD 0
def jL.iZ(s:jL):Bool:= !s.list.isEmpty
def jL.rest(s:jL):jL:={s with list:=s.list.tail}
theorem AO(p:Nat)(s:jL)(w:World)(h:Hp)(hi:In w h)(hg:yG p s h):
  Calls Tryz.prog 163 #[.pointer (some ⟨p,0,none⟩)] w fun e w'=>e= .returned (.tuple #[.int .i64 s.di, .bool s.iZ])/\ ∃h',yG p s.rest h'/\aj h h' w w':=by
 have hg0:=hg
 obtain⟨v,hs,rfl,hS,w1,w2,w3,w4⟩:=hg
 obtain⟨most,list⟩:=s
 cases list with
 |nil=>
  obtain⟨ao,cap,rfl,hcap⟩:=hS.shape
  have e1:w.cell? ⟨p,1,none⟩=some (.slice ao 0 cap):=cell_of hi.head 1
  have hh:jL.rest ⟨most,[]⟩=⟨most,[]⟩:=rfl
  rw[hh]
  have U0:=(aj.refl hi)
  clear hh hS
  go_enter Tryz.func163,Tryz.ntmps163
  go_wp2
  go_ret2
  exact⟨rfl,_,hg0,U0⟩
 |cons x xs=>
  obtain⟨g,off,cap,rfl,hcap,hR⟩:=aK.rest (n:=xs.length) (x:= .int .i64 x) (xs:=ints xs) hS
  have hx:w.cell? ⟨g,off,none⟩=some (.int .i64 x):=by have:=hS.cell hi.tail rfl (j:=0) (by simp);simpa using this
  have hb:w.heap[p]? =some (wI ⟨most,x::xs⟩ (.slice (some ⟨g,off,none⟩) (xs.length+1) cap)):=hi.head
  have e1:w.cell? ⟨p,1,none⟩=some (.slice (some ⟨g,off,none⟩) (xs.length+1) cap):=cell_of hb 1
  have f1:w.frozen? ⟨p,1,none⟩=false:=aO hb 1
  have hlen:xs.length+1<=1048576:=by simp only[List.length_cons]at w3 w2;omega
  have U0:=(aj.refl hi)
  have hfin: ∀w1 off',aK 3 1 (.slice (some ⟨g,off',none⟩) xs.length (cap-1)) xs.length (ints xs) hs->aj ((p,wI ⟨most,x::xs⟩ (.slice (some ⟨g,off,none⟩) (xs.length+1) cap))::hs) ((p,wI ⟨most,x::xs⟩ (.slice (some ⟨g,off,none⟩) (xs.length+1) cap))::hs) w w1->
    ∃h',yG p (jL.rest ⟨most,x::xs⟩) h'/\aj ((p,wI ⟨most,x::xs⟩ (.slice (some ⟨g,off,none⟩) (xs.length+1) cap))::hs) h' w (w1.setCell ⟨p,1,none⟩ (.slice (some ⟨g,off',none⟩) xs.length (cap-1))):=by
   intro w1 off' hR u1
   refine⟨_,⟨_,hs,rfl,hR,by assumption,w2, ?_,fun y hy=>w4 y (List.mem_cons_of_mem _ hy)⟩,u1.store1 1 _⟩
   show((xs.length:Nat):Int)<=most
   simp at w3
   omega
  have HF:=Lib.hid hfin
  clear hfin hS w1 w2 w3 w4 hb hg0
  by_cases hc:1=cap
  ·rw[if_pos hc]at hR
   subst hc
   obtain rfl:xs=[]:=List.eq_nil_of_length_eq_zero (by omega)
   have HR:=Lib.hid hR
   clear hR
   simp only[List.length_nil,Nat.zero_add]at*
   go_enter Tryz.func163,Tryz.ntmps163
   go_wp2
   go_ret2
   exact⟨rfl,HF.out _ off HR.out U0⟩
  ·rw[if_neg hc]at hR
   have HR:=Lib.hid hR
   clear hR
   go_enter Tryz.func163,Tryz.ntmps163
   go_wp2
   go_ret2
   exact⟨rfl,HF.out _ (off+1) HR.out U0⟩
theorem Ja(p:Nat)(s:bz)(n:Nat)(w:World)(h:Hp)(hi:In w h)(hg:oq p s h)(hn:s.first=some n):
  Calls Tryz.prog 165 #[.pointer (some ⟨p,0,none⟩), .int .i64 n] w fun e w'=>e= .returned (.bool true)/\ ∃h',oq p (s.KL n) h'/\aj h h' w w':=by
 have hb:=qZ _ _ _ hn
 have hyes:s.marks.getD n false=true:=by
  have key: ∀(l:List Bool) (k n:Nat),firstT l k=some n->l.getD (n-k) false=true:=by
   intro l
   induction l with
   |nil=>intro k n h;cases h
   |cons b l ih=>
    intro k n h
    have hl:=qZ _ _ _ h
    unfold firstT at h
    split at h
    ·rename_i hb
     cases h
     simp[hb]
    ·have:=ih _ _ h
     have hl2:=qZ _ _ _ h
     rw[show n-k=(n-(k+1))+1 by omega]
     simpa[List.getD]using this
  simpa using key _ _ _ hn
 obtain⟨b,rfl,hwf⟩:=hg
 have hle:=xE hwf
 have e3:w.cell? ⟨p,3,none⟩=some (.slice (some ⟨b,0,none⟩) s.marks.length s.marks.length):=cell_of hi.head 3
 have hnl:n<s.marks.length:=by omega
 have hc:w.cell? ⟨b,n,none⟩=some (.bool true):=by
  rw[cell_of hi.tail.head n,<-hyes]
  simp[List.getD,hnl]
 have hf:w.frozen? ⟨b,n,none⟩=false:=aO hi.tail.head n
 have hs:(bools s.marks).toArray.setIfInBounds n (.bool false)=(bools (s.marks.set n false)).toArray:=by simp[bools,List.map_set]
 obtain⟨U0⟩:Nonempty (aj [(p, .cells #[.int .i64 s.base, .int .i64 s.words, .int .i64 s.card, .slice (some ⟨b,0,none⟩) s.marks.length s.marks.length] 187 (0,0)),(b, .cells (bools s.marks).toArray 4 (0,0))] [(p, .cells #[.int .i64 s.base, .int .i64 s.words, .int .i64 s.card, .slice (some ⟨b,0,none⟩) s.marks.length s.marks.length] 187 (0,0)),(b, .cells (bools s.marks).toArray 4 (0,0))] w w):=⟨aj.refl hi⟩
 have XV:(s.KL n).WF:=by
  obtain⟨a1,a2,a3,a4,a5,a6,a7⟩:=hwf
  exact⟨a1,a2,a3,a4,a5,a6,by show((s.marks.set n false).length:Int)=_;rw[List.length_set];exact a7⟩
 have HS:=Lib.hid hs
 clear hs hyes hwf hb hn
 go_enter Tryz.func165,Tryz.ntmps165
 go_wp2
 go_ret
 refine⟨rfl,_,⟨b, ?_,XV⟩,aj.store' (l:=[(p,_)]) (r:=[]) U0 n (.bool false)⟩
 rw[HS.out]
 simp[bz.KL]
def bz.lI(s:bz)(n:Nat):Int:=s.base+n*s.card
def bz.lJ(s:bz)(n:Nat):Int:=s.base+min ((n+1)*s.card) s.words
theorem Gm{s:bz}(hw:s.WF){n:Nat}(hn:n<s.marks.length):0<=(n:Int)*s.card/\ (n:Int)*s.card<=1048576/\0<=((n:Int)+1)*s.card/\ ((n:Int)+1)*s.card<=2097152:=by
 obtain⟨a1,a2,a3,a4,a5,a6,a7⟩:=hw
 have e1:((n:Int)+1)*s.card=n*s.card+s.card:=by rw[Int.add_mul];omega
 have h0:0<=(n:Int)*s.card:=Int.mul_nonneg (by omega) (by omega)
 have hle:(n:Int)*s.card<=s.words:=by
  have hlt:(n:Int)<bz.many s.words s.card:=by omega
  unfold bz.many at hlt
  have:(n:Int)<=s.words/s.card:=by omega
  exact Int.le_trans (Int.mul_le_mul_of_nonneg_right this (by omega)) (Int.ediv_mul_le _ (by omega))
 omega
theorem MC(p:Nat)(s:bz)(n:Nat)(w:World)(h:Hp)(hi:In w h)(hg:oq p s h)(hn:n<s.marks.length):
  Calls Tryz.prog 166 #[.pointer (some ⟨p,0,none⟩), .int .i64 n] w fun e w'=>e= .returned (.tuple #[.int .i64 (s.lI n), .int .i64 (s.lJ n)])/\aj h h w w':=by
 have hcd:=hg
 obtain⟨b,hh,hwf⟩:=hg
 have hle:=xE hwf
 obtain⟨k1,k2,k3,k4⟩:=Gm hwf hn
 have e0:w.cell? ⟨p,0,none⟩=some (.int .i64 s.base):=by rw[hh]at hi;exact cell_of hi.head 0
 have e1:w.cell? ⟨p,1,none⟩=some (.int .i64 s.words):=by rw[hh]at hi;exact cell_of hi.head 1
 have e2:w.cell? ⟨p,2,none⟩=some (.int .i64 s.card):=by rw[hh]at hi;exact cell_of hi.head 2
 have e3:w.cell? ⟨p,3,none⟩=some (.slice (some ⟨b,0,none⟩) s.marks.length s.marks.length):=by rw[hh]at hi;exact cell_of hi.head 3
 obtain⟨a1,a2,a3,a4,a5,a6,a7⟩:=hwf
 have U0:=aj.refl hi
 have m1:IntKind.i64.wrap ((n:Int)*s.card)=(n:Int)*s.card:=IntWalk.i64_in _ (by omega)
 have m2:IntKind.i64.wrap ((n:Int)+1)=(n:Int)+1:=IntWalk.i64_in _ (by omega)
 have m3:IntKind.i64.wrap (((n:Int)+1)*s.card)=((n:Int)+1)*s.card:=IntWalk.i64_in _ (by omega)
 have m4:IntKind.i64.wrap (s.base+(n:Int)*s.card)=s.base+(n:Int)*s.card:=IntWalk.i64_in _ (by omega)
 have hlo:s.lI n=s.base+(n:Int)*s.card:=rfl
 have hhi:s.lJ n=s.base+min (((n:Int)+1)*s.card) s.words:=rfl
 rw[hlo,hhi]
 have hn0:decide ((n:Int)<0)=false:=decide_eq_false (by omega)
 have hn1:decide ((s.marks.length:Int)<=(n:Int))=false:=decide_eq_false (by omega)
 have hn2:decide (s.marks.length<=n)=false:=decide_eq_false (by omega)
 clear hh hlo hhi a7 hcd
 generalize hA:(n:Int)*s.card=A at*
 generalize hB:((n:Int)+1)*s.card=B at*
 by_cases hc:B<=s.words
 ·rw[show min B s.words=B by omega]
  have m5:IntKind.i64.wrap (s.base+B)=s.base+B:=IntWalk.i64_in _ (by omega)
  go_enter Tryz.func166,Tryz.ntmps166
  go_wp2
  go_quiet (fail)
  go_wp2
  go_ret2
  exact⟨rfl,U0.drewN' nq⟩
 ·rw[show min B s.words=s.words by omega]
  have m5:IntKind.i64.wrap (s.base+s.words)=s.base+s.words:=IntWalk.i64_in _ (by omega)
  go_enter Tryz.func166,Tryz.ntmps166
  go_wp2
  go_quiet (fail)
  go_wp2
  go_ret2
  exact⟨rfl,U0.drewN' nq⟩
theorem O4(p:Nat)(s:bZ)(w:World)(h:Hp)(hi:In w h)(hg:lQ p s h):
  Calls Tryz.prog 168 #[.pointer (some ⟨p,0,none⟩)] w fun e w'=> ∃v h',e= .returned v/\aK 3 1 v s.list.length (ints s.list) h'/\aj [] h' w w':=by
 obtain⟨v,hs,rfl,hS,w1,w2,w3,w4⟩:=hg
 have e1:w.cell? ⟨p,1,none⟩=some v:=cell_of hi.head 1
 have hc:=xG _ s.list.length s.list w _ hi.tail hS (by omega)
 go_enter Tryz.func168,Tryz.ntmps168
 go_wp2_with(first|(go_at_call 114;refine Calls.mono hc ?_;rintro e w1 ⟨v1,h1,rfl,s1,u1⟩)|(go_at_call 63;refine Calls.mono (uB _ _ _ _ _ s1 (by omega)) ?_;rintro e w2 ⟨v2,rfl,s2,rfl⟩))
 go_ret
 exact⟨v2,h1,rfl,s2,u1⟩
def bZ.put(s:bZ)(l:List Int):bZ:=l.foldl bZ.push {s with list:=[]}
theorem aj.fM{w0 w w':World}{h0 k h h':Hp}(a:aj h0 (k++h) w0 w)(u:aj h h' w w'):aj h0 (k++h') w0 w':=by
 have hi:In w (h++k):=a.au.perm List.perm_append_comm
 exact a.trans ((u.beside hi).perm List.perm_append_comm List.perm_append_comm)
theorem O5(p:Nat)(s:bZ)(v:Value)(n:Nat)(l:List Int)(w:World)(h k:Hp)(hi:In w (k++h))(hg:lQ p s h)(hv:aK 3 1 v n (ints l) k)(hx: ∀x∈l,I64 x)(hn:n<=1048576):
  Calls Tryz.prog 169 #[.pointer (some ⟨p,0,none⟩),v] w fun e w'=>e= .returned (.tuple #[])/\ ∃h',lQ p (s.put l) h'/\aj (k++h) (k++h') w w':=by
 have hlen:l.length=n:=by have:=hv.1;simp at this;omega
 obtain⟨v0,hs,rfl,hS,w1,w2,w3,w4⟩:=hg
 obtain⟨ao,cap,rfl,hcap⟩:=hv.shape
 have f1:w.frozen? ⟨p,1,none⟩=false:=aO hi.right.head 1
 have e1:w.cell? ⟨p,1,none⟩=some v0:=cell_of hi.right.head 1
 have U1:aj (k++(p,nY s v0)::hs) (k++[(p,nY {s with list:=[]} (.slice none 0 0))]) w (w.setCell ⟨p,1,none⟩ (.slice none 0 0)):=
  (aj.store' (l:=k) (r:=hs) (aj.refl hi) 1 (.slice none 0 0)).forget (List.Sublist.append_left (List.cons_sublist_cons.2 (List.nil_sublist _)) k)
 have G1:lQ p {s with list:=[]} [(p,nY {s with list:=[]} (.slice none 0 0))]:=⟨_,[],rfl,aK.nil _ _,w1,w2,by simp only[List.length_nil];omega,by simp⟩
 have HP:=Lib.hid (fun s' x W h' (hW:In W h') (g:lQ p s' h') (hx:I64 x)=>DV p s' x W h' hW g hx)
 have HX:=Lib.hid hx
 have HV:=Lib.hid hv
 have HL:=Lib.hid hlen
 have H1:Hid (∃hk,lQ p ((l.take 0).foldl bZ.push {s with list:=[]}) hk/\aj (k++(p,nY s v0)::hs) (k++hk) w (w.setCell ⟨p,1,none⟩ (.slice none 0 0))):=Lib.hid ⟨_,G1,U1⟩
 clear hx hv hlen U1 G1 hS w4 w3
 go_enter Tryz.func169,Tryz.ntmps169
 go_wp2
 go_loopw [13] (fun i wr=> ∃j:Nat,j<=n/\i= .int .i64 j/\Hid (∃hk,lQ p ((l.take j).foldl bZ.push {s with list:=[]}) hk/\aj (k++(p,nY s v0)::hs) (k++hk) w wr)) (fun i _=>n-(intOf i).toNat)
 case atStart=>exact⟨0,by omega,rfl,H1⟩
 case round=>
  obtain⟨j,hj,rfl,HJ⟩:=hrel
  by_cases hlt:j<n
  ·obtain⟨hk,G,U⟩:=HJ.out
   obtain⟨g,off,rfl,hc⟩:=aK.nH (kd:= .i64) HV.out U.au.left hlt
   have hjl:j<l.length:=by have:=HL.out;omega
   have hxj:I64 (l.getD j 0):=HX.out _ (by simp[List.getD,hjl])
   have hnext:(l.take (j+1)).foldl bZ.push {s with list:=[]}=((l.take j).foldl bZ.push {s with list:=[]}).push (l.getD j 0):=by
    rw[List.take_succ_eq_append_getElem hjl,List.foldl_append]
    simp[List.getD,hjl]
   have HN:=Lib.hid hnext
   have HU:=Lib.hid U
   have HG:=Lib.hid G
   clear hnext HJ U G
   generalize l.getD j 0=xj at*
   go_wp2_with(go_at_call 141;refine Calls.mono (HP.out _ _ _ _ HU.out.au.right HG.out hxj) ?_;rintro e w9 ⟨rfl,h9,g9,u9⟩;have U9:=Lib.hid (aj.fM HU.out u9);have G9:=Lib.hid g9;clear u9 g9)
   go_roundw
   case rel=>exact⟨j+1,by omega,by go_num,Lib.hid ⟨h9,by rw[HN.out];exact G9.out,U9.out⟩⟩
   case measure=>simp[intOf];omega
  ·go_wp2
   go_end0
   obtain⟨hk,G,U⟩:=HJ.out
   rw[List.take_of_length_le (by have:=HL.out;omega)]at G
   exact⟨rfl,hk,G,U⟩
def iq.left(s:iq):Int:=s.tb.list.length+jE s.tc.marks
def iq.flip(s:iq):iq:={s with nb:=⟨s.most,[]⟩,nc:=fF s.base s.words s.size,tb:=s.nb,tc:=s.nc}
theorem Gn(p:Nat)(s:iq)(w:World)(h:Hp)(hi:In w h)(hr:uA p s h):
  Calls Tryz.prog 154 #[.pointer (some ⟨p,0,none⟩)] w fun e w'=>e= .returned (.int .i64 s.left)/\aj h h w w':=by
 have U0:=aj.refl hi
 obtain⟨q,h1,h2,h3,h4,rfl,y1,y2,y3,y4,hwf⟩:=hr
 have hb:=(hi.part (i:=0) rfl).head
 have e3:w.cell? ⟨p,5,none⟩=some (.pointer (some ⟨q.tb,0,none⟩)):=cell_of hb 5
 have e4:w.cell? ⟨p,6,none⟩=some (.pointer (some ⟨q.tc,0,none⟩)):=cell_of hb 6
 have hbl:=fun n=>Ri q.tb s.tb (w.drewN n) h3 ((hi.part (i:=3) rfl).drewN n) y3
 have hcc:=fun n=>I5 q.tc s.tc (w.drewN n) h4 ((hi.part (i:=4) rfl).drewN n) y4
 have l1:s.tb.list.length<=1048576:=by obtain⟨v,hs,_,_,_,k2,k3,_⟩:=y3;omega
 have l2:jE s.tc.marks<=1048576:=by
  obtain⟨b,_,hw⟩:=y4
  have:=xE hw
  have:=DW s.tc.marks
  omega
 have hw:IntKind.i64.wrap ((s.tb.list.length:Int)+jE s.tc.marks)=(s.tb.list.length:Int)+jE s.tc.marks:=IntWalk.i64_in _ (by omega)
 have HB:=Lib.hid hbl
 have HC:=Lib.hid hcc
 have HU:=Lib.hid U0
 clear hb hbl hcc y1 y2 y3 y4 hwf U0
 go_enter Tryz.func154,Tryz.ntmps154
 go_wp2
 go_quiet ((first|(go_at_call 181;exact Calls.quiet_of_same (HB.out _))|(go_at_call 182;exact Calls.quiet_of_same (HC.out _))))
 go_wp2
 go_ret
 exact⟨rfl,HU.out.drewN' nq⟩
theorem aj.kc{w w':World}{h':Hp}(u:aj [] h' w w'){b i:Nat}{v:Value}(hc:w.cell? ⟨b,i,none⟩=some v):w'.cell? ⟨b,i,none⟩=some v:=
 (u.below.cell (p:=⟨b,i,none⟩) (World.block_lt_of_cell? _ _ hc)).trans hc
theorem aj.kf{w w':World}{h':Hp}(u:aj [] h' w w'){b i:Nat}{v:Value}(hc:w.cell? ⟨b,i,none⟩=some v)(hf:w.frozen? ⟨b,i,none⟩=false):w'.frozen? ⟨b,i,none⟩=false:=
 (u.below.frozen (p:=⟨b,i,none⟩) (World.block_lt_of_cell? _ _ hc)).trans hf
theorem MF{α:Type}(x a b d e:List α):((e++d)++(x++(a++b))).Perm (x++(d++(e++(a++b)))):=by
 have h1:((e++d)++(x++(a++b))).Perm (x++((e++d)++(a++b))):=by
  rw[<-List.append_assoc,<-List.append_assoc x]
  exact List.perm_append_comm.append_right _
 refine h1.trans (List.Perm.append_left x ?_)
 rw[<-List.append_assoc d]
 exact List.perm_append_comm.append_right _
theorem O6(p:Nat)(s:iq)(w:World)(h:Hp)(hi:In w h)(hr:uA p s h)(h0:s.left=0):
  Calls Tryz.prog 118 #[.pointer (some ⟨p,0,none⟩)] w fun e w'=>e= .returned (.bool true)/\ ∃h',uA p s.flip h'/\aj h h' w w':=by
 have hleft:=Gn p s w h hi hr
 rw[h0]at hleft
 obtain⟨q,h1,h2,h3,h4,hh,y1,y2,y3,y4,hwf⟩:=hr
 have HF:Hid (∀w1,aj h h w w1->w1.cell? ⟨p,2,none⟩=some (EN q)/\w1.cell? ⟨p,3,none⟩=some (ptr q.nb)/\w1.cell? ⟨p,4,none⟩=some (ptr q.nc)/\In w1 (fJ q s)/\ (∀i,w1.frozen? ⟨p,i,none⟩=false)/\ (∃v5,w1.cell? ⟨p,5,none⟩=some v5)/\ (∃v6,w1.cell? ⟨p,6,none⟩=some v6)):=Lib.hid (by
  intro w1 u
  have hu:=u.au
  rw[hh]at hu
  have hb:=(hu.part (i:=0) rfl).head
  exact⟨cell_of hb 2,cell_of hb 3,cell_of hb 4,(hu.part (i:=0) rfl).tail,fun i=>aO hb i,⟨_,cell_of hb 5⟩,⟨_,cell_of hb 6⟩⟩)
 have HS:=Lib.hid (fun W hW=>Gj q s W hW hwf)
 clear h0
 simp only[ptr,EN]at*
 go_enter Tryz.func118,Tryz.ntmps118
 go_wp2_with(go_at_call 154;refine Calls.mono hleft ?_;rintro e w1 ⟨rfl,u1⟩;obtain⟨c2,c3,c4,hbx,hf,⟨v5,c5⟩,⟨v6,c6⟩⟩:=HF.out _ u1;have f3:=hf 3;have f4:=hf 4;have f5:=hf 5;have f6:=hf 6;clear hf;have hbd:=hbx.drew)
 go_region_with (go_at_call 132;refine Calls.mono (HS.out _ hbd) ?_;rintro e w2 ⟨b,c,k1,k2,rfl,z1,z2,u2⟩;have d3:=u2.kc c3;have d4:=u2.kc c4;have d5:=u2.kc c5;have d6:=u2.kc c6;have g3:=u2.kf c3 f3;have g4:=u2.kf c4 f4;have g5:=u2.kf c5 f5;have g6:=u2.kf c6 f6)
 all_goals
  go_wp2
  go_ret
  have U2:=(u1.drew').more u2
  have e:h=(p,EO q s)::(fJ q s++(h1++(h2++(h3++h4)))):=by rw[hh];simp
  clear hh
  subst e
  have U3:=((((aj.store' (l:=k2++k1) (arr:=#[.int .i64 s.base, .int .i64 s.words,EN q,ptr q.nb,ptr q.nc,ptr q.tb,ptr q.tc]) U2 3 (ptr b)).store' (l:=k2++k1) 4 (ptr c)).store' (l:=k2++k1) 5 (ptr q.nb)).store' (l:=k2++k1) 6 (ptr q.nc))
  have U4:=U3.forget (k:=(k2++k1)++(((p,EO {q with nb:=b,nc:=c,tb:=q.nb,tc:=q.nc} s.flip)::fJ q s)++(h1++h2))) (List.Sublist.append_left (List.Sublist.cons_cons _ (List.Sublist.append_left (List.Sublist.append_left (List.sublist_append_left _ _) _) _)) _)
  exact⟨rfl,_,⟨{q with nb:=b,nc:=c,tb:=q.nb,tc:=q.nc},k1,k2,h1,h2,rfl,z1,z2,y1,y2,hwf⟩,U4.perm (List.Perm.refl _) ((MF _ _ _ _ _).trans (by simp[fJ,iq.flip]))⟩
theorem Gp(p:Nat)(s:iq)(w:World)(h:Hp)(hi:In w h)(hr:uA p s h)(h0:0<s.left):
  Calls Tryz.prog 118 #[.pointer (some ⟨p,0,none⟩)] w fun e w'=>e= .returned (.bool false)/\aj h h w w':=by
 have hleft:=Gn p s w h hi hr
 generalize s.left=n at*
 go_enter Tryz.func118,Tryz.ntmps118
 go_wp2_with(go_at_call 154;refine Calls.mono hleft ?_;rintro e w1 ⟨rfl,u1⟩)
 go_ret
 exact⟨rfl,u1⟩
theorem ES(p:Nat)(s:iq)(w:World)(h:Hp)(hi:In w h)(hr:uA p s h)(x:Int)(xs:List Int)(ht:s.tb.list=x::xs):
  Calls Tryz.prog 147 #[.pointer (some ⟨p,0,none⟩)] w fun e w'=>e= .returned (.tuple #[.int .i64 x, .int .i64 (wrap64 (x+1)), .bool false, .bool true])/\ ∃h',uA p {s with tb:=s.tb.rest} h'/\aj h h' w w':=by
 obtain⟨q,h1,h2,h3,h4,rfl,y1,y2,y3,y4,hwf⟩:=hr
 have U0:=aj.refl hi
 have e5:w.cell? ⟨p,5,none⟩=some (.pointer (some ⟨q.tb,0,none⟩)):=cell_of (hi.part (i:=0) rfl).head 5
 have htake:=AO q.tb s.tb w h3 (hi.part (i:=3) rfl) y3
 have ha:s.tb.di=x:=by simp[jL.di,ht]
 have hb:s.tb.iZ=true:=by simp[jL.iZ,ht]
 rw[ha,hb]at htake
 clear ha hb ht
 go_enter Tryz.func147,Tryz.ntmps147
 go_wp2_with(first
  | (go_at_call 163;refine Calls.mono htake ?_;rintro e w1 ⟨rfl,k3,z3,u1⟩;have U1:=U0.fH (i:=3) rfl u1;have e6:w1.cell? ⟨p,6,none⟩=some (.pointer (some ⟨q.tc,0,none⟩)):=cell_of (U1.au.part (i:=0) rfl).head 6;have Gq:=Lib.hid U1;clear htake))
 exact bodyPost_ret (v:= .tuple #[.int .i64 x, .int .i64 (wrap64 (x+1)), .bool false, .bool true]) (by simp[results,Tryz.results147,go_sem]) rfl ⟨rfl,_,⟨q,h1,h2,k3,h4,rfl,y1,y2,z3,y4,hwf⟩,Gq.out⟩
theorem Di(p:Nat)(s:iq)(w:World)(h:Hp)(hi:In w h)(hr:uA p s h)(ht:s.tb.list=[])(hc:s.tc.first=none):
  Calls Tryz.prog 147 #[.pointer (some ⟨p,0,none⟩)] w fun e w'=>e= .returned (.tuple #[.int .i64 0, .int .i64 0, .bool false, .bool false])/\ ∃h',uA p {s with tb:=s.tb.rest} h'/\aj h h' w w':=by
 obtain⟨q,h1,h2,h3,h4,rfl,y1,y2,y3,y4,hwf⟩:=hr
 have U0:=aj.refl hi
 have e5:w.cell? ⟨p,5,none⟩=some (.pointer (some ⟨q.tb,0,none⟩)):=cell_of (hi.part (i:=0) rfl).head 5
 have htake:=AO q.tb s.tb w h3 (hi.part (i:=3) rfl) y3
 have ha:s.tb.di=0:=by simp[jL.di,ht]
 have hb:s.tb.iZ=false:=by simp[jL.iZ,ht]
 rw[ha,hb]at htake
 clear ha hb ht
 have hf:=fun W (hW:In W h4)=>AB q.tc s.tc W h4 hW y4
 rw[hc]at hf
 simp only[yH,Option.isSome_none]at hf
 clear hc
 go_enter Tryz.func147,Tryz.ntmps147
 go_wp2_with(first
  | (go_at_call 163;refine Calls.mono htake ?_;rintro e w1 ⟨rfl,k3,z3,u1⟩;have U1:=U0.fH (i:=3) rfl u1;have e6:w1.cell? ⟨p,6,none⟩=some (.pointer (some ⟨q.tc,0,none⟩)):=cell_of (U1.au.part (i:=0) rfl).head 6;have Gq:=Lib.hid U1;clear htake)
  | (go_at_call 164;refine Calls.mono (hf _ (Gq.out.au.part (i:=4) rfl)) ?_;rintro e w2 ⟨rfl,rfl⟩;clear hf))
 exact bodyPost_ret (v:= .tuple #[.int .i64 0, .int .i64 0, .bool false, .bool false]) (by simp[results,Tryz.results147,go_sem]) rfl ⟨rfl,_,⟨q,h1,h2,k3,h4,rfl,y1,y2,z3,y4,hwf⟩,Gq.out⟩
theorem Dj(p:Nat)(s:iq)(w:World)(h:Hp)(hi:In w h)(hr:uA p s h)(n:Nat)(ht:s.tb.list=[])(hc:s.tc.first=some n):
  Calls Tryz.prog 147 #[.pointer (some ⟨p,0,none⟩)] w fun e w'=>e= .returned (.tuple #[.int .i64 (s.tc.lI n), .int .i64 (s.tc.lJ n), .bool true, .bool true])/\ ∃h',uA p {s with tb:=s.tb.rest,tc:=s.tc.KL n} h'/\aj h h' w w':=by
 obtain⟨q,h1,h2,h3,h4,rfl,y1,y2,y3,y4,hwf⟩:=hr
 have U0:=aj.refl hi
 have e5:w.cell? ⟨p,5,none⟩=some (.pointer (some ⟨q.tb,0,none⟩)):=cell_of (hi.part (i:=0) rfl).head 5
 have htake:=AO q.tb s.tb w h3 (hi.part (i:=3) rfl) y3
 have ha:s.tb.di=0:=by simp[jL.di,ht]
 have hb:s.tb.iZ=false:=by simp[jL.iZ,ht]
 rw[ha,hb]at htake
 clear ha hb ht
 have hf:=fun W (hW:In W h4)=>AB q.tc s.tc W h4 hW y4
 have hcl:=fun W (hW:In W h4)=>Ja q.tc s.tc n W h4 hW y4 hc
 have hn:n<(s.tc.KL n).marks.length:=by have:=qZ _ _ _ hc;simp[bz.KL];omega
 have hpt:=fun W k4 (hW:In W k4) (g:oq q.tc (s.tc.KL n) k4)=>MC q.tc (s.tc.KL n) n W k4 hW g hn
 have e1:(s.tc.KL n).lI n=s.tc.lI n:=rfl
 have e2:(s.tc.KL n).lJ n=s.tc.lJ n:=rfl
 rw[e1,e2]at hpt
 rw[hc]at hf
 simp only[yH,Option.isSome_some]at hf
 clear hc hn e1 e2
 generalize s.tc.lI n=lo at*
 generalize s.tc.lJ n=hi' at*
 go_enter Tryz.func147,Tryz.ntmps147
 go_wp2_with(first
  | (go_at_call 163;refine Calls.mono htake ?_;rintro e w1 ⟨rfl,k3,z3,u1⟩;have U1:=U0.fH (i:=3) rfl u1;have e6:w1.cell? ⟨p,6,none⟩=some (.pointer (some ⟨q.tc,0,none⟩)):=cell_of (U1.au.part (i:=0) rfl).head 6;have Gq:=Lib.hid U1;clear htake)
  | (go_at_call 164;refine Calls.mono (hf _ (Gq.out.au.part (i:=4) rfl)) ?_;rintro e w2 ⟨rfl,rfl⟩;clear hf)
  | (go_at_call 165;refine Calls.mono (hcl _ (Gq.out.au.part (i:=4) rfl)) ?_;rintro e w3 ⟨rfl,k4,z4,u3⟩;have U3:=Gq.out.fH (i:=4) rfl u3;have e6:w3.cell? ⟨p,6,none⟩=some (.pointer (some ⟨q.tc,0,none⟩)):=cell_of (U3.au.part (i:=0) rfl).head 6;have HU3:=Lib.hid U3;clear hcl U3)
  | (go_at_call 166;refine Calls.mono (hpt _ _ (HU3.out.au.part (i:=4) rfl) z4) ?_;rintro e w4 ⟨rfl,u4⟩;have U4:=HU3.out.fH (i:=4) rfl u4;clear hpt))
 exact bodyPost_ret (v:= .tuple #[.int .i64 lo, .int .i64 hi', .bool true, .bool true]) (by simp[results,Tryz.results147,go_sem]) rfl ⟨rfl,_,⟨q,h1,h2,k3,k4,rfl,y1,y2,z3,z4,hwf⟩,U4⟩
end Go.Proofs.YtibemcgdmembeaaGreat
namespace Go.Proofs.YtibemcgdmembeaaGreat
open Go.RowKit
def wK(n:Int):Int:=if n<=4 then 4 else if n<=6 then 6 else if n<=8 then 8 else if n<=12 then 12 else if n<=16 then 16 else if n<=24 then 24 else if n<=32 then 32 else if n<=48 then 48 else if n<=64 then 64 else 96
theorem sD(n:Int):4<=wK n/\wK n<=96:=by
 unfold wK
 repeat' split
 all_goals omega
theorem Uw{n:Int}(h:n<=96):n<=wK n:=by
 unfold wK
 repeat' split
 all_goals omega
theorem uF(n:Int)(w:World)(h1:n<=66):
  Calls Tryz.prog 124 #[.int .i64 n] w fun e w'=>e= .returned (.int .i64 (wK n))/\w'=w:=by
 obtain⟨R,hR⟩: ∃R,R=wK n:=⟨_,rfl⟩
 rw[<-hR]
 have HR:=Lib.hid hR
 clear hR
 go_enter Tryz.func124,Tryz.ntmps124
 go_wp2
 go_loop [3] (fun v=> ∃k:Int,(k=4∨(k=8/\6<n)∨(k=16/\12<n)∨(k=32/\24<n)∨(k=64/\48<n)∨(k=128/\96<n))/\v= .int .i64 k) (fun v=>(200-intOf v).toNat)
 case atStart=>exact⟨4, .inl rfl,rfl⟩
 case round=>
  obtain⟨k,hk,rfl⟩:=hrel
  rcases hk with rfl|⟨rfl,h2⟩|⟨rfl,h2⟩|⟨rfl,h2⟩|⟨rfl,h2⟩|⟨rfl,h2⟩
  ·by_cases a1:n<=4
   ·have HV:Hid (R=4):=Lib.hid (by rw[HR.out];unfold wK;((repeat' split)<;>omega))
    go_wp2
    go_ret
    rw[HV.out]
    exact⟨rfl,rfl⟩
   ·by_cases a2:n<=6
    ·have HV:Hid (R=6):=Lib.hid (by rw[HR.out];unfold wK;((repeat' split)<;>omega))
     go_wp2
     go_ret
     rw[HV.out]
     exact⟨rfl,rfl⟩
    ·go_wp2
     go_round
     case rel=>exact⟨8,by omega,rfl⟩
     case measure=>simp[intOf]
  ·by_cases a1:n<=8
   ·have HV:Hid (R=8):=Lib.hid (by rw[HR.out];unfold wK;((repeat' split)<;>omega))
    go_wp2
    go_ret
    rw[HV.out]
    exact⟨rfl,rfl⟩
   ·by_cases a2:n<=12
    ·have HV:Hid (R=12):=Lib.hid (by rw[HR.out];unfold wK;((repeat' split)<;>omega))
     go_wp2
     go_ret
     rw[HV.out]
     exact⟨rfl,rfl⟩
    ·go_wp2
     go_round
     case rel=>exact⟨16,by omega,rfl⟩
     case measure=>simp[intOf]
  ·by_cases a1:n<=16
   ·have HV:Hid (R=16):=Lib.hid (by rw[HR.out];unfold wK;((repeat' split)<;>omega))
    go_wp2
    go_ret
    rw[HV.out]
    exact⟨rfl,rfl⟩
   ·by_cases a2:n<=24
    ·have HV:Hid (R=24):=Lib.hid (by rw[HR.out];unfold wK;((repeat' split)<;>omega))
     go_wp2
     go_ret
     rw[HV.out]
     exact⟨rfl,rfl⟩
    ·go_wp2
     go_round
     case rel=>exact⟨32,by omega,rfl⟩
     case measure=>simp[intOf]
  ·by_cases a1:n<=32
   ·have HV:Hid (R=32):=Lib.hid (by rw[HR.out];unfold wK;((repeat' split)<;>omega))
    go_wp2
    go_ret
    rw[HV.out]
    exact⟨rfl,rfl⟩
   ·by_cases a2:n<=48
    ·have HV:Hid (R=48):=Lib.hid (by rw[HR.out];unfold wK;((repeat' split)<;>omega))
     go_wp2
     go_ret
     rw[HV.out]
     exact⟨rfl,rfl⟩
    ·go_wp2
     go_round
     case rel=>exact⟨64,by omega,rfl⟩
     case measure=>simp[intOf]
  ·by_cases a1:n<=64
   ·have HV:Hid (R=64):=Lib.hid (by rw[HR.out];unfold wK;((repeat' split)<;>omega))
    go_wp2
    go_ret
    rw[HV.out]
    exact⟨rfl,rfl⟩
   ·by_cases a2:n<=96
    ·have HV:Hid (R=96):=Lib.hid (by rw[HR.out];unfold wK;((repeat' split)<;>omega))
     go_wp2
     go_ret
     rw[HV.out]
     exact⟨rfl,rfl⟩
    ·omega
  ·omega
def qI(page n:Int):Bool:=decide (page/2<wK n)
theorem zk(page n:Int)(w:World)(h1:n<=66)(h2:0<=page)(h3:page<=1048576):
  Calls Tryz.prog 123 #[.int .i64 page, .int .i64 n] w fun e w'=>e= .returned (.bool (qI page n))/\w'=w:=by
 have hr:=uF n w h1
 obtain⟨b1,b2⟩:=sD n
 have hb:qI page n=decide (page/2<wK n):=rfl
 rw[hb]
 clear hb
 generalize wK n=R at*
 go_enter Tryz.func123,Tryz.ntmps123
 go_wp2_with(go_at_call 124;with_reducible refine Calls.mono hr ?_;rintro e w' ⟨rfl,rfl⟩)
 go_ret
 exact⟨rfl,rfl⟩
def dS(page n:Int):Int:=n/page+min (n % page) 1
theorem fU{page n:Int}(h1:1<=n)(h2:n<=66)(h3:16<=page):1<=dS page n/\dS page n<=6/\n<=dS page n*page:=by
 unfold dS
 have e1:page*(n/page)+n % page=n:=Int.mul_ediv_add_emod n page
 have e2:0<=n % page:=Int.emod_nonneg n (by omega)
 have e3:n % page<page:=Int.emod_lt_of_pos n (by omega)
 have e4:0<=n/page:=Int.ediv_nonneg (by omega) (by omega)
 have e5:n/page<=4:=by
  have:n/page<5:=Int.ediv_lt_of_lt_mul (by omega) (by omega)
  omega
 generalize n/page=q at*
 generalize n % page=r at*
 have e6:page*q=q*page:=Int.mul_comm _ _
 rw[e6]at e1
 rw[Int.add_mul]
 generalize hA:q*page=A at*
 by_cases hr:r=0
 ·subst hr
  rw[show min (0:Int) 1=0 by omega]
  rcases Int.lt_or_eq_of_le e4 with h|h
  ·omega
  ·subst h
   omega
 ·rw[show min r 1=1 by omega]
  omega
theorem qh(page n:Int)(w:World)(h1:1<=n)(h2:n<=66)(h3:16<=page)(h4:page<=1048576):
  Calls Tryz.prog 87 #[.int .i64 page, .int .i64 n] w fun e w'=>e= .returned (.int .i64 (dS page n))/\ ∃k,w'=w.drewN k:=by
 have e2:0<=n % page:=Int.emod_nonneg n (by omega)
 have e3:n % page<page:=Int.emod_lt_of_pos n (by omega)
 have e4:0<=n/page:=Int.ediv_nonneg (by omega) (by omega)
 have e5:n/page<=n:=Int.ediv_le_self _ (by omega)
 have hz:page≠0:=by omega
 have hd:n.tdiv page=n/page:=Int.tdiv_eq_ediv_of_nonneg (by omega)
 have hd2:n.tmod page=n % page:=Int.tmod_eq_emod_of_nonneg (by omega)
 have hv:dS page n=n/page+min (n % page) 1:=rfl
 rw[hv]
 clear hv
 generalize n/page=q at*
 generalize n % page=r at*
 have w1:IntKind.i64.wrap q=q:=IntWalk.i64_in _ (by omega)
 have w2:IntKind.i64.wrap r=r:=IntWalk.i64_in _ (by omega)
 have hr:r=0∨1<=r:=by omega
 rcases hr with rfl|hr
 ·rw[show q+min (0:Int) 1=q by omega]
  go_enter Tryz.func87,Tryz.ntmps87
  go_wp2
  all_goals first|go_quiet (fail)|skip
  all_goals go_wp2
  all_goals go_ret
  all_goals exact⟨rfl,_,rfl⟩
 ·rw[show q+min r 1=q+1 by omega]
  have hr1:r=1∨1<r:=by omega
  clear hr
  rcases hr1 with rfl|hr
  all_goals
   go_enter Tryz.func87,Tryz.ntmps87
   go_wp2
   go_quiet (fail)
   go_wp2
   go_ret
   exact⟨rfl,_,rfl⟩
theorem Gs(page n:Int)(w:World)(h1:1<=n)(h2:n<=1048576)(h3:1<=page)(h4:page<=1048576):
  Calls Tryz.prog 194 #[.int .i64 page, .int .i64 n] w fun e w'=>e= .returned (.int .i64 (page/n))/\w'=w:=by
 have e4:0<=page/n:=Int.ediv_nonneg (by omega) (by omega)
 have e5:page/n<=page:=Int.ediv_le_self _ (by omega)
 have hz:n≠0:=by omega
 have hd:page.tdiv n=page/n:=Int.tdiv_eq_ediv_of_nonneg (by omega)
 generalize page/n=q at*
 have w1:IntKind.i64.wrap q=q:=IntWalk.i64_in _ (by omega)
 go_enter Tryz.func194,Tryz.ntmps194
 go_wp2
 go_ret
 exact⟨rfl,rfl⟩
end Go.Proofs.YtibemcgdmembeaaGreat
namespace Go.Proofs.YtibemcgdmembeaaGreat
open Go.RowKit
abbrev gZ(p:Nat)(s:aP)(b:Nat)(rows:List jM):List Hp:=[(p,gY s b)]::[(b,jd rows)]::rows.map (·.2.2)
def bn(p b:Nat)(rows:List jM)(s:aP)(h:Hp):Prop:=h=(gZ p s b rows).flatten/\s.pages=rows.map (·.1)/\ (∀r∈rows,DL r)/\s.WF
theorem eF.rows{p:Nat}{s:aP}{h:Hp}(m:eF p s h): ∃b rows,bn p b rows s h:=m
theorem bn.MG{p b:Nat}{rows:List jM}{s:aP}{h:Hp}(m:bn p b rows s h):eF p s h:=⟨b,rows,m⟩
theorem Ux{w:World}{o:Obj}{b i:Nat}{v:Value}(hc:w.cell? ⟨b,i,none⟩=some v):(w.alloc o).cell? ⟨b,i,none⟩=some v:=((aj.refl (In.nil w)).skip' o).kc hc
theorem XA{w:World}{o:Obj}{b i j:Nat}{v:Value}(hc:w.cell? ⟨b,j,none⟩=some v)(hf:w.frozen? ⟨b,i,none⟩=false):(w.alloc o).frozen? ⟨b,i,none⟩=false:=by
 have hb:b<w.heap.size:=World.block_lt_of_cell? _ _ hc
 rw[((aj.refl (In.nil w)).skip' o).below.frozen (p:=⟨b,i,none⟩) hb]
 exact hf
theorem keeps{w:World}{k a i j o:Nat}{x u v:Value}(h:w.cell? ⟨a,i,none⟩=some u/\w.cell? ⟨a,j,none⟩=some v)(m:k≠a):
  (w.setCell ⟨k,o,none⟩ x).cell? ⟨a,i,none⟩=some u/\ (w.setCell ⟨k,o,none⟩ x).cell? ⟨a,j,none⟩=some v:=by
 have e: ∀i,(w.setCell ⟨k,o,none⟩ x).cell? ⟨a,i,none⟩=w.cell? ⟨a,i,none⟩:=by
  intro i
  simp only[World.cell?]
  rw[heap_setCell_other (by exact fun e=>m e.symm)]
 exact⟨(e i).trans h.1,(e j).trans h.2⟩
theorem bn.ne{p b:Nat}{rows:List jM}{s:aP}{h:Hp}{w:World}(m:bn p b rows s h)(hi:In w h):b≠p:=by
 have h1:=hi.1
 rw[m.1]at h1
 intro e
 subst e
 simp[gZ]at h1
theorem Rl{α β:Type}{f:α->β}{l:List α}{n:Nat}{y:β}(h:(l.map f)[n]? =some y): ∃x,l[n]? =some x/\f x=y:=by
 rw[List.getElem?_map]at h
 cases hx:l[n]? with
 |none=>rw[hx]at h;cases h
 |some x=>rw[hx]at h;cases h;exact⟨x,rfl,rfl⟩
theorem bn.row{p b:Nat}{rows:List jM}{s:aP}{h:Hp}(m:bn p b rows s h){n:Nat}{g:bC}(hg:s.pages[n]? =some g): ∃v hp,rows[n]? =some (g,v,hp)/\DL (g,v,hp):=by
 obtain⟨_,hp,hr,_⟩:=m
 rw[hp]at hg
 obtain⟨⟨g',v,k⟩,h1,rfl⟩:=Rl hg
 exact⟨v,k,h1,hr _ (List.mem_of_getElem? h1)⟩
theorem bn.len{p b:Nat}{rows:List jM}{s:aP}{h:Hp}(m:bn p b rows s h):rows.length=s.pages.length:=by rw[m.2.1];simp
theorem bn.cells{p b:Nat}{rows:List jM}{s:aP}{h:Hp}{w:World}(m:bn p b rows s h)(hi:In w h):
  w.cell? ⟨p,0,none⟩=some (.int .i64 s.base)/\w.cell? ⟨p,1,none⟩=some (.int .i64 s.words)/\w.cell? ⟨p,2,none⟩=some (.slice (some ⟨b,0,none⟩) s.pages.length s.pages.length):=by
 have hi2:=hi
 rw[m.1]at hi2
 have hb:=(hi2.part (i:=0) rfl).head
 exact⟨cell_of hb 0,cell_of hb 1,cell_of hb 2⟩
theorem bn.list{p b:Nat}{rows:List jM}{s:aP}{h:Hp}{w:World}(m:bn p b rows s h)(hi:In w h):w.heap[b]? =some (jd rows):=by
 have hi2:=hi
 rw[m.1]at hi2
 exact(hi2.part (i:=1) rfl).head
theorem bn.page{p b:Nat}{rows:List jM}{s:aP}{h:Hp}{w:World}(m:bn p b rows s h)(hi:In w h){n:Nat}{r:jM}(hr:rows[n]? =some r):
  w.cell? ⟨b,n*4,none⟩=some (.int .i64 r.1.kind)/\w.cell? ⟨b,n*4+1,none⟩=some (.int .i64 r.1.size)/\w.cell? ⟨b,n*4+2,none⟩=some r.2.1/\w.cell? ⟨b,n*4+3,none⟩=some (.bool r.1.pending):=AA (m.list hi) hr
theorem bn.part{p b:Nat}{rows:List jM}{s:aP}{h:Hp}{w:World}(m:bn p b rows s h)(hi:In w h){n:Nat}{r:jM}(hr:rows[n]? =some r):In w r.2.2:=by
 have hi2:=hi
 rw[m.1]at hi2
 exact hi2.part (i:=n+2) (by simp[hr])
theorem xI: ∀(rows:List jM) (n j:Nat) (v:Value) (r r':jM),rows[n]? =some r->j<4->dw r'=(dw r).set j v->(rows.flatMap dw).set (n*4+j) v=(rows.set n r').flatMap dw
 |[],n,j,v,r,r',hr,_,_=>by simp at hr
 |x::rows,0,j,v,r,r',hr,hj,he=>by
  simp at hr
  subst hr
  have hl:(dw x).length=4:=rfl
  simp only[List.flatMap_cons,Nat.zero_mul,Nat.zero_add,List.set_cons_zero]
  rw[List.set_append_left _ _ (by omega),he]
 |x::rows,n+1,j,v,r,r',hr,hj,he=>by
  simp at hr
  have hl:(dw x).length=4:=rfl
  simp only[List.flatMap_cons,List.set_cons_succ]
  rw[List.set_append_right _ _ (by omega),hl,show(n+1)*4+j-4=n*4+j by omega,xI rows n j v r r' hr hj he]
theorem oC{rows:List jM}{n j:Nat}{v:Value}{r r':jM}(hr:rows[n]? =some r)(hj:j<4)(he:dw r'=(dw r).set j v):
  (rows.flatMap dw).toArray.setIfInBounds (n*4+j) v=((rows.set n r').flatMap dw).toArray:=by
 rw[<-xI rows n j v r r' hr hj he]
 simp
theorem sF{α:Type}(l:List α)(n:Nat)(x y:α):(l.set n x).set n y=l.set n y:=by simp
theorem xJ{rows:List jM}{n:Nat}{g:bC}{v:Value}{k:Hp}{r:jM}(hr:rows[n]? =some r):
  ((((rows.flatMap dw).toArray.setIfInBounds (n*4) (.int .i64 g.kind)).setIfInBounds (n*4+1) (.int .i64 g.size)).setIfInBounds (n*4+2) v).setIfInBounds (n*4+3) (.bool g.pending)=((rows.set n (g,v,k)).flatMap dw).toArray:=by
 have hn:n<rows.length:=(List.getElem?_eq_some_iff.1 hr).1
 have e0:=oC (r':=({r.1 with kind:=g.kind},r.2.1,k)) hr (j:=0) (v:= .int .i64 g.kind) (by omega) rfl
 rw[Nat.add_zero]at e0
 rw[e0]
 rw[oC (r:=({r.1 with kind:=g.kind},r.2.1,k)) (r':=({r.1 with kind:=g.kind,size:=g.size},r.2.1,k)) (j:=1) (by simp[hn]) (by omega) rfl,sF]
 rw[oC (r:=({r.1 with kind:=g.kind,size:=g.size},r.2.1,k)) (r':=({r.1 with kind:=g.kind,size:=g.size},v,k)) (j:=2) (by simp[hn]) (by omega) rfl,sF]
 rw[oC (r:=({r.1 with kind:=g.kind,size:=g.size},v,k)) (r':=(g,v,k)) (j:=3) (by simp[hn]) (by omega) rfl,sF]
theorem aj.O7{w0 w:World}{h0 y x:Hp}{l:List Hp}{i:Nat}(a:aj h0 (y++l.flatten) w0 w)(hx:l[i]? =some x):aj h0 (l.set i y).flatten w0 w:=by
 have p1:(y++l.flatten).Perm (x++(y++(l.eraseIdx i).flatten)):=by
  refine((kS hx).append_left y).trans ?_
  rw[<-List.append_assoc,<-List.append_assoc]
  exact List.perm_append_comm.append_right _
 have a1:=(a.perm (List.Perm.refl _) p1).forget (List.sublist_append_right x _)
 exact a1.perm (List.Perm.refl _) (kR y hx).symm
def aP.begin(s:aP)(n:Nat):Int:=s.base+n*s.words
def aP.bu(s:aP)(n:Nat)(g:bC):aP:={s with pages:=s.pages.set n g}
theorem bn.set{p b:Nat}{rows:List jM}{s:aP}{h h0:Hp}{w0 w:World}(m:bn p b rows s h)(n:Nat)(g':bC)(v':Value)(k':Hp)(ok:DL (g',v',k')){r:jM}(hr:rows[n]? =some r)
  (U:aj h0 (k'++(gZ p s b (rows.set n (g',v',r.2.2))).flatten) w0 w): ∃h',bn p b (rows.set n (g',v',k')) (s.bu n g') h'/\aj h0 h' w0 w:=by
 obtain⟨_,hp,hro,hwf⟩:=m
 have hn:n<rows.length:=(List.getElem?_eq_some_iff.1 hr).1
 have U2:=U.O7 (i:=n+2) (x:=r.2.2) (by simp[hn])
 refine⟨_,⟨rfl, ?_, ?_, ?_⟩, ?_⟩
 ·show s.pages.set n g'=_
  rw[List.map_set,hp]
 ·intro q hq
  rcases List.mem_or_eq_of_mem_set hq with h1|h1
  ·exact hro q h1
  ·rw[h1];exact ok
 ·obtain⟨a1,a2,a3,a4,a5⟩:=hwf
  exact⟨a1,a2,a3,a4,by show(s.pages.set n g').length<=64;simpa using a5⟩
 ·have e1:gY (s.bu n g') b=gY s b:=by simp[gY,aP.bu]
  have e2:jd (rows.set n (g',v',r.2.2))=jd (rows.set n (g',v',k')):=by
   unfold jd
   congr 2
   have key: ∀(l:List jM) (n:Nat) (x y:jM),dw x=dw y->(l.set n x).flatMap dw=(l.set n y).flatMap dw:=by
    intro l
    induction l with
    |nil=>intro n x y _;rfl
    |cons z l ih=>
     intro n x y he
     cases n with
     |zero=>simp[he]
     |succ n=>simp[ih n x y he]
   exact key _ _ _ _ rfl
  simp only[gZ,e1,<-e2,List.map_set]
  simpa[gZ,List.map_set]using U2
def qJ(l:List Bool):Option Nat:=firstT (l.map (!·)) 0
def Uy(o:Option Nat):Int:=match o with|some k=>k|none=> -1
theorem wL{l:List Bool}{k:Nat}(h:qJ l=some k):k<l.length/\l[k]? =some false:=by
 have key: ∀(l:List Bool) (o k:Nat),firstT (l.map (!·)) o=some k->o<=k/\l[k-o]? =some false:=by
  intro l
  induction l with
  |nil=>intro o k h;cases h
  |cons b l ih=>
   intro o k h
   cases b
   ·simp[firstT]at h
    subst h
    simp
   ·simp[firstT]at h
    obtain⟨h1,h2⟩:=ih _ _ h
    refine⟨by omega, ?_⟩
    rw[show k-o=(k-(o+1))+1 by omega]
    simpa using h2
 have h1:=(key l 0 k h).2
 rw[Nat.sub_zero]at h1
 exact⟨(List.getElem?_eq_some_iff.1 h1).1,h1⟩
def bC.use(g:bC)(k:Nat)(v:Bool):bC:={g with used:=g.used.set k v}
def aP.Uz(s:aP)(n:Nat)(g:bC)(o:Option Nat):aP:=match o with|some k=>s.bu n (g.use k true)|none=>s
theorem pF(p:Nat)(s:aP)(n:Nat)(w:World)(h:Hp)(hi:In w h)(hm:eF p s h)(hn:n<=64):
  Calls Tryz.prog 183 #[.pointer (some ⟨p,0,none⟩), .int .i64 n] w fun e w'=>e= .returned (.int .i64 (s.begin n))/\aj h h w w':=by
 obtain⟨b,rows,m⟩:=hm.rows
 obtain⟨c0,c1,c2⟩:=m.cells hi
 obtain⟨_,_,_,a1,a2,a3,a4,a5⟩:=m
 have U0:=aj.refl hi
 have k0:0<=(n:Int)*s.words:=Int.mul_nonneg (by omega) (by omega)
 have k1:(n:Int)*s.words<=64*256:=Int.mul_le_mul (by omega) (by omega) (by omega) (by omega)
 have m1:IntKind.i64.wrap ((n:Int)*s.words)=(n:Int)*s.words:=IntWalk.i64_in _ (by omega)
 have hb:s.begin n=s.base+(n:Int)*s.words:=rfl
 rw[hb]
 clear hb
 generalize hA:(n:Int)*s.words=A at*
 have m2:IntKind.i64.wrap (s.base+A)=s.base+A:=IntWalk.i64_in _ (by omega)
 go_enter Tryz.func183,Tryz.ntmps183
 go_wp2
 go_quiet (fail)
 go_wp2
 go_ret
 exact⟨rfl,U0.drewN' nq⟩
def nD(count:Nat):List bC->Nat->Nat->Option Nat
 |[],_,_=>none
 |g::l,n,run=>if g.kind=0 then(if run+1=count then some (n+1-count)else nD count l (n+1) (run+1))else nD count l (n+1) 0
theorem MH(c:Nat)(l:List bC)(k run:Nat)(g:bC)(h:l[k]? =some g):nD c (l.drop k) k run=if g.kind=0 then(if run+1=c then some (k+1-c)else nD c (l.drop (k+1)) (k+1) (run+1))else nD c (l.drop (k+1)) (k+1) 0:=by
 obtain⟨hk,rfl⟩:=List.getElem?_eq_some_iff.1 h
 rw[List.drop_eq_getElem_cons hk]
 rfl
theorem AP(p:Nat)(s:aP)(c:Nat)(w:World)(h:Hp)(hi:In w h)(hm:eF p s h)(h1:1<=c)(h2:c<=64):
  Calls Tryz.prog 186 #[.pointer (some ⟨p,0,none⟩), .int .i64 c] w fun e w'=>e= .returned (.tuple #[.int .i64 (yH (nD c s.pages 0 0)), .bool (nD c s.pages 0 0).isSome])/\w'=w:=by
 obtain⟨b,rows,m⟩:=hm.rows
 obtain⟨c0,c1,c2⟩:=m.cells hi
 have hlen:s.pages.length<=64:=m.2.2.2.2.2.2.2
 have HK:Hid (∀k g,s.pages[k]? =some g->w.cell? ⟨b,k*4,none⟩=some (.int .i64 g.kind)):=Lib.hid (by
  intro k g hg
  obtain⟨v,hp,hr,_⟩:=m.row hg
  exact(m.page hi hr).1)
 obtain⟨R,hR⟩: ∃R,R=nD c s.pages 0 0:=⟨_,rfl⟩
 rw[<-hR]
 have HR:=Lib.hid hR
 clear hR m
 go_enter Tryz.func186,Tryz.ntmps186
 go_wp2
 go_loop [6,13] (fun v i=> ∃k run:Nat,k<=s.pages.length/\run<=k/\run<c/\i= .int .i64 k/\v= .int .i64 run/\Hid (R=nD c (s.pages.drop k) k run)) (fun _ i=>s.pages.length-(intOf i).toNat)
 case atStart=>exact⟨0,0,by omega,by omega,by omega,rfl,rfl,HR⟩
 case round=>
  obtain⟨k,run,hk,hrk,hrc,rfl,rfl,HL⟩:=hrel
  by_cases hlt:k<s.pages.length
  ·obtain⟨g,hg⟩: ∃g,s.pages[k]? =some g:=⟨_,List.getElem?_eq_getElem hlt⟩
   have hc:=HK.out k g hg
   have hd:=MH c s.pages k run g hg
   have hne:b≠p∨True:= .inr trivial
   clear hg hne
   by_cases hz:g.kind=0
   ·rw[if_pos hz]at hd
    rw[hz]at hc
    clear hz
    by_cases hq:run+1=c
    ·rw[if_pos hq]at hd
     have HV:=Lib.hid (HL.out.trans hd)
     obtain⟨j,hj⟩: ∃j:Nat,k+1=j+c:=⟨k+1-c,by omega⟩
     have e2:IntKind.i64.wrap (IntKind.i64.wrap ((k:Int)-c)+1)=j:=by rw[IntWalk.i64_in ((k:Int)-c) (by omega),IntWalk.i64_in _ (by omega)];omega
     have e3:k+1-c=j:=by omega
     rw[e3]at HV
     have hz1:((run:Int)+1==c)=true:=by simp;omega
     have E:=Lib.hid (show(k:Int)-c+1=j by omega)
     clear hd hq HL e2 e3 hj
     go_wp2
     go_ret2
     rw[HV.out]
     refine⟨?_,rfl⟩
     simp only[yH,Option.isSome_some]
     rw[<-E.out]
     rfl
    ·rw[if_neg hq]at hd
     have HV:=Lib.hid (HL.out.trans hd)
     have hz1:((run:Int)+1==c)=false:=by simp;omega
     clear hd HL
     go_wp2
     go_round
     case rel=>exact⟨k+1,run+1,by omega,by omega,by omega,by go_num,by go_num,HV⟩
     case measure=>simp[intOf];omega
   ·rw[if_neg hz]at hd
    have HV:=Lib.hid (HL.out.trans hd)
    have hz1:(g.kind !=0)=true:=by simpa using hz
    clear hd HL hz
    go_wp2
    go_round
    case rel=>exact⟨k+1,0,by omega,by omega,by omega,by go_num,rfl,HV⟩
    case measure=>simp[intOf];omega
  ·have HV:Hid (R=none):=Lib.hid (HL.out.trans (by rw[List.drop_of_length_le (by omega)];rfl))
   clear HL
   go_wp2
   go_ret2
   rw[HV.out]
   exact⟨rfl,rfl⟩
theorem DY(l:List Bool)(k:Nat)(v:Bool):(bools l).set k (.bool v)=bools (l.set k v):=by simp[bools,List.map_set]
theorem MI(p b:Nat)(rows:List jM)(s:aP)(n:Nat)(g:bC)(w:World)(h:Hp)(hi:In w h)(m:bn p b rows s h)(hg:s.pages[n]? =some g):
  Calls Tryz.prog 193 #[.pointer (some ⟨b,n*4,none⟩)] w fun e w'=>e= .returned (.int .i64 (Uy (qJ g.used)))/\ ∃rows' h',bn p b rows' (s.Uz n g (qJ g.used)) h'/\aj h h' w w':=by
 obtain⟨v,hp,hr,hok⟩:=m.row hg
 obtain⟨c0,c1,c2,c3⟩:=m.page hi hr
 simp only at c0 c1 c2 c3
 have sG:=m.part hi hr
 have V3:g.used.length<=1048576:=hok.2
 have hS:=hok.1
 simp only at hS
 obtain⟨ao,cap,rfl,hcap⟩:=hS.shape
 obtain⟨R,hR⟩: ∃R,R=qJ g.used:=⟨_,rfl⟩
 rw[<-hR]
 have HR:Hid (R=firstT ((g.used.map (!·)).drop 0) 0):=Lib.hid hR
 have HC:Hid (∀k,k<g.used.length-> ∃gb off,ao=some ⟨gb,off,none⟩/\w.cell? ⟨gb,off+k,none⟩=some (.bool (g.used.getD k false))/\w.frozen? ⟨gb,off+k,none⟩=false):=Lib.hid (by
  intro k hk
  obtain⟨gb,off,cap',hv,_⟩:=hS.addr (by omega)
  have hc:=hS.cell sG hv (j:=k) (by simpa using hk)
  simp only[Value.slice.injEq]at hv
  refine⟨gb,off,hv.1, ?_,hS.frozen sG (by rw[hv.1]) _⟩
  rw[hc]
  simp[List.getD,hk])
 have HF:Hid (∀k,R=some k-> ∀gb off,ao=some ⟨gb,off,none⟩-> ∃rows' h',bn p b rows' (s.bu n (g.use k true)) h'/\aj h h' w (w.setCell ⟨gb,off+k,none⟩ (.bool true))):=Lib.hid (by
  intro k hk gb off ha
  obtain⟨hkl,_⟩:=wL (hR.symm.trans hk)
  subst ha
  obtain⟨hp',hS',u⟩:=hS.store sG rfl (j:=k) (by simpa using hkl) (.bool true)
  rw[DY]at hS'
  have U:=aj.fH (l:=gZ p s b rows) (i:=n+2) (by rw[<-m.1];exact aj.refl hi) (by simp[hr]) u
  have hn:n<rows.length:=(List.getElem?_eq_some_iff.1 hr).1
  have hset:(gZ p s b rows).set (n+2) hp'=gZ p (s.bu n (g.use k true)) b (rows.set n (g.use k true, .slice (some ⟨gb,off,none⟩) g.used.length cap,hp')):=by
   have e1:gY (s.bu n (g.use k true)) b=gY s b:=by simp[gY,aP.bu]
   have e2:jd (rows.set n (g.use k true, .slice (some ⟨gb,off,none⟩) g.used.length cap,hp'))=jd rows:=by
    unfold jd
    have:=xI rows n 0 (.int .i64 g.kind) _ (g.use k true, .slice (some ⟨gb,off,none⟩) g.used.length cap,hp') hr (by omega) rfl
    rw[<-this,Nat.add_zero]
    congr 2
    refine set_self ?_
    have:=xA rows n 0 (by omega)
    rw[Nat.add_zero,hr]at this
    exact this
   simp only[gZ,e1,e2,List.set_cons_succ,List.map_set]
  rw[hset]at U
  refine⟨_,_,⟨rfl, ?_, ?_, ?_⟩,U⟩
  ·show s.pages.set n _=_
   rw[List.map_set,m.2.1]
  ·intro q hq
   rcases List.mem_or_eq_of_mem_set hq with h1|h1
   ·exact m.2.2.1 q h1
   ·rw[h1]
    exact⟨by simpa[bC.use]using hS',by simpa[bC.use]using V3⟩
  ·obtain⟨a1,a2,a3,a4,a5⟩:=m.2.2.2
   exact⟨a1,a2,a3,a4,by show(s.pages.set n _).length<=64;simpa using a5⟩)
 have HM:=Lib.hid m
 have HU:=Lib.hid (aj.refl hi)
 clear hR hS hok m c0 c1 c3 sG
 go_enter Tryz.func193,Tryz.ntmps193
 go_wp2
 go_loop [10] (fun i=> ∃k:Nat,k<=g.used.length/\i= .int .i64 k/\Hid (R=firstT ((g.used.map (!·)).drop k) k)) (fun i=>g.used.length-(intOf i).toNat)
 case atStart=>exact⟨0,by omega,rfl,HR⟩
 case round=>
  obtain⟨k,hk,rfl,HL⟩:=hrel
  by_cases hlt:k<g.used.length
  ·obtain⟨gb,off,rfl,hc,hf⟩:=HC.out k hlt
   have h2:=uC (g.used.map (!·)) k (by simpa using hlt)
   have h3:(g.used.map (!·)).getD k false= !g.used.getD k false:=by simp[List.getD,hlt]
   rw[h3]at h2
   clear h3
   cases hb:g.used.getD k false
   ·rw[hb]at hc h2
    have HV:Hid (R=some k):=Lib.hid (HL.out.trans h2)
    clear h2 hb HL
    go_wp2
    go_ret
    obtain⟨rows',h',m',U'⟩:=HF.out k HV.out gb off rfl
    rw[HV.out]
    exact⟨rfl,rows',h',m',U'⟩
   ·rw[hb]at hc h2
    have HV:=Lib.hid (HL.out.trans h2)
    clear h2 hb HL
    go_wp2
    go_round
    case rel=>exact⟨k+1,by omega,by go_num,HV⟩
    case measure=>simp[intOf];omega
  ·have HV:Hid (R=none):=Lib.hid (HL.out.trans (by rw[List.drop_of_length_le (by simp;omega)];rfl))
   clear HL
   go_wp2
   go_ret
   rw[HV.out]
   exact⟨rfl,rows,h,HM.out,HU.out⟩
end Go.Proofs.YtibemcgdmembeaaGreat
namespace Go.Proofs.YtibemcgdmembeaaGreat
open Go.RowKit
def oD(size:Int):List bC->Nat->Option (Nat×Nat)
 |[],_=>none
 |g::l,n=>if(g.kind=1/\g.size=size)/\g.pending=false then(match qJ g.used with|some k=>some (n,k)|none=>oD size l (n+1))else oD size l (n+1)
theorem Jb(size:Int)(l:List bC)(k:Nat)(g:bC)(h:l[k]? =some g):oD size (l.drop k) k=if(g.kind=1/\g.size=size)/\g.pending=false then(match qJ g.used with|some j=>some (k,j)|none=>oD size (l.drop (k+1)) (k+1))else oD size (l.drop (k+1)) (k+1):=by
 obtain⟨hk,rfl⟩:=List.getElem?_eq_some_iff.1 h
 rw[List.drop_eq_getElem_cons hk]
 rfl
def aP.KP(s:aP)(n k:Nat):aP:=match s.pages[n]? with|some g=>s.bu n (g.use k true)|none=>s
def iH(size words:Int):bC:=⟨1,size,(List.replicate (words/size).toNat false).set 0 true,false⟩
def aP.fresh(s:aP)(size:Int)(o:Option Nat):Option (Int×aP):=match o with
 |some n=>some (s.begin n,s.bu n (iH size s.words))
 |none=>none
def aP.fitted(s:aP)(size:Int)(o:Option (Nat×Nat)):Option (Int×aP):=match o with
 |some (n,k)=>some (s.begin n+k*size,s.KP n k)
 |none=>s.fresh size (nD 1 s.pages 0 0)
def aP.inB(s:aP)(size:Int):Option (Int×aP):=s.fitted size (oD size s.pages 0)
theorem Rn{c:Nat}{l:List bC}{n:Nat}(h:nD (c+1) l 0 0=some n):n<l.length:=by
 have key: ∀(l:List bC) (k run n:Nat),nD (c+1) l k run=some n->n<k+l.length:=by
  intro l
  induction l with
  |nil=>intro k run n h;cases h
  |cons g l ih=>
   intro k run n h
   unfold nD at h
   simp only[List.length_cons]
   split at h
   ·split at h
    ·cases h
     omega
    ·have:=ih _ _ _ h
     omega
   ·have:=ih _ _ _ h
    omega
 have:=key l 0 0 n h
 omega
def Ro(o:Option (Int×aP)):Int:=match o with|some x=>x.1|none=>0
def Rq(s:aP)(o:Option (Int×aP)):aP:=match o with|some x=>x.2|none=>s
theorem MJ(c:Nat):(List.replicate c (Value.bool false)).toArray.setIfInBounds 0 (.bool true)=(bools ((List.replicate c false).set 0 true)).toArray:=by
 simp only[List.setIfInBounds_toArray,bools,List.map_set,List.map_replicate]
theorem AQ(p b:Nat)(rows:List jM)(s:aP)(size:Int)(w:World)(h:Hp)(hi:In w h)(m:bn p b rows s h)(h1:4<=size)(h2:size<=s.words):
  Calls Tryz.prog 185 #[.pointer (some ⟨p,0,none⟩), .int .i64 size] w fun e w'=>e= .returned (.tuple #[.int .i64 (Ro (s.inB size)), .bool (s.inB size).isSome])/\ ∃rows' h',bn p b rows' (Rq s (s.inB size)) h'/\aj h h' w w':=by
 obtain⟨c0,c1,c2⟩:=m.cells hi
 obtain⟨a1,a2,a3,a4,a5⟩:=m.2.2.2
 obtain⟨R,hR⟩: ∃R,R=oD size s.pages 0:=⟨_,rfl⟩
 obtain⟨F,hF⟩: ∃F,F=s.inB size:=⟨_,rfl⟩
 have HF:Hid (F=s.fitted size R):=Lib.hid (by rw[hF,hR];rfl)
 rw[<-hF]
 have HR:=Lib.hid hR
 have H0:Hid (∃rows' h',bn p b rows' s h'/\aj h h' w w):=Lib.hid ⟨rows,h,m,aj.refl hi⟩
 have hlen:=m.len
 clear hR hF m
 go_enter Tryz.func185,Tryz.ntmps185
 go_wp2
 go_loopw [16] (fun i wr=> ∃k:Nat,k<=s.pages.length/\i= .int .i64 k/\Hid (R=oD size (s.pages.drop k) k)/\Hid (∃rows' h',bn p b rows' s h'/\aj h h' w wr)) (fun i _=>s.pages.length-(intOf i).toNat)
 case atStart=>exact⟨0,by omega,rfl,HR,H0⟩
 case round=>
  obtain⟨k,hk,rfl,HL,HW⟩:=hrel
  by_cases hlt:k<s.pages.length
  ·obtain⟨g,hg⟩: ∃g,s.pages[k]? =some g:=⟨_,List.getElem?_eq_getElem hlt⟩
   obtain⟨oV,h1',m1,u1⟩:=HW.out
   have hd:=Jb size s.pages k g hg
   have HD:=Lib.hid (HL.out.trans hd)
   obtain⟨v,hp,hr,hok⟩:=m1.row hg
   obtain⟨d0,d1,d2,d3⟩:=m1.page u1.au hr
   obtain⟨_,_,q2⟩:=m1.cells u1.au
   have hcell:=MI p b oV s k g wr h1' u1.au m1 hg
   have HU:=Lib.hid u1
   simp only at d0 d1 d2 d3
   have XW:=HW
   clear hd HL hok hr d2 u1 m1 HW
   by_cases g1:g.kind=1
   ·rw[g1]at d0
    by_cases g2:g.size=size
    ·rw[g2]at d1
     cases g3:g.pending
     ·rw[g3]at d3
      have HE:Hid (R=match qJ g.used with|some j=>some (k,j)|none=>oD size (s.pages.drop (k+1)) (k+1)):=Lib.hid (by rw[HD.out,if_pos ⟨⟨g1,g2⟩,g3⟩])
      cases hq:qJ g.used with
      |none=>
       have HV:Hid (R=oD size (s.pages.drop (k+1)) (k+1)):=Lib.hid (by rw[HE.out,hq])
       rw[hq]at hcell
       simp only[Uy,aP.Uz]at hcell
       clear HD HE g1 g2 g3 hg
       go_wp2_with(go_at_call 193;refine Calls.mono hcell ?_;rintro e w9 ⟨rfl,O8,h9,m9,u9⟩;have HW9:Hid (∃rows' h',bn p b rows' s h'/\aj h h' w w9):=Lib.hid ⟨O8,h9,m9,HU.out.trans u9⟩;clear hcell u9 m9)
       go_roundw
       case rel=>exact⟨k+1,by omega,by go_num,HV,HW9⟩
       case measure=>simp[intOf];omega
      |some j=>
       have HV:Hid (R=some (k,j)):=Lib.hid (by rw[HE.out,hq])
       have hju:=(wL hq).1
       have V3:g.used.length<=1048576:=by
        obtain⟨oV,h1',m1,u1⟩:=H0.out
        obtain⟨v,hp,hr,hok⟩:=m1.row hg
        exact hok.2
       have HS:Hid (s.KP k j=s.bu k (g.use j true)):=Lib.hid (by simp[aP.KP,hg])
       rw[hq]at hcell
       simp only[Uy,aP.Uz]at hcell
       have hbg:=fun W h' rows' (hW:In W h') (mm:bn p b rows' (s.bu k (g.use j true)) h')=>pF p (s.bu k (g.use j true)) k W h' hW mm.MG (by omega)
       have hbe:(s.bu k (g.use j true)).begin k=s.begin k:=rfl
       rw[hbe]at hbg
       have HB:=Lib.hid hbg
       have k0:0<=(j:Int)*size:=Int.mul_nonneg (by omega) (by omega)
       have k1:(j:Int)*size<=1048576*256:=Int.mul_le_mul (by omega) (by omega) (by omega) (by omega)
       have b0:0<=s.begin k/\s.begin k<=1048576+64*256:=by
        unfold aP.begin
        have:0<=(k:Int)*s.words:=Int.mul_nonneg (by omega) (by omega)
        have:(k:Int)*s.words<=64*256:=Int.mul_le_mul (by omega) (by omega) (by omega) (by omega)
        omega
       obtain⟨b0,b1⟩:=b0
       have V4:Hid (F=some (s.begin k+(j:Int)*size,s.bu k (g.use j true))):=Lib.hid (by rw[HF.out,HV.out,aP.fitted,HS.out])
       clear HD HE g1 g2 g3 hg hbg hbe HS HF HV
       generalize hA:(j:Int)*size=A at*
       generalize s.begin k=Bk at*
       generalize g.use j true=g' at*
       have m1:IntKind.i64.wrap A=A:=IntWalk.i64_in _ (by omega)
       have m2:IntKind.i64.wrap (Bk+A)=Bk+A:=IntWalk.i64_in _ (by omega)
       go_wp2_with(first
        | (go_at_call 193;refine Calls.mono hcell ?_;rintro e w9 ⟨rfl,O8,h9,m9,u9⟩;have M9:=Lib.hid m9;have U9:=Lib.hid (HU.out.trans u9);clear hcell u9 m9)
        | (go_at_call 183;refine Calls.mono (HB.out _ _ _ U9.out.au M9.out) ?_;rintro e w8 ⟨rfl,u8⟩;have U8:=Lib.hid (U9.out.trans u8);clear u8))
       go_ret2
       rw[V4.out]
       exact⟨rfl,O8,h9,M9.out,U8.out⟩
     ·rw[g3]at d3
      have HV:Hid (R=oD size (s.pages.drop (k+1)) (k+1)):=Lib.hid (by rw[HD.out,if_neg (by simp[g3])])
      clear HD g1 g2 g3 hg
      go_wp2
      go_roundw
      case rel=>exact⟨k+1,by omega,by go_num,HV,XW⟩
      case measure=>simp[intOf];omega
    ·have HV:Hid (R=oD size (s.pages.drop (k+1)) (k+1)):=Lib.hid (by rw[HD.out,if_neg (by simp[g2])])
     have hq:(g.size !=size)=true:=by simpa using g2
     clear HD g1 hg g2
     go_wp2
     go_roundw
     case rel=>exact⟨k+1,by omega,by go_num,HV,XW⟩
     case measure=>simp[intOf];omega
   ·have HV:Hid (R=oD size (s.pages.drop (k+1)) (k+1)):=Lib.hid (by rw[HD.out,if_neg (by simp[g1])])
    have hq:(g.kind !=1)=true:=by simpa using g1
    clear HD g1 hg
    go_wp2
    go_roundw
    case rel=>exact⟨k+1,by omega,by go_num,HV,XW⟩
    case measure=>simp[intOf];omega
  ·have HV:Hid (R=none):=Lib.hid (HL.out.trans (by rw[List.drop_of_length_le (by omega)];rfl))
   have HF2:Hid (F=s.fresh size (nD 1 s.pages 0 0)):=Lib.hid (by rw[HF.out,HV.out];rfl)
   obtain⟨oV,h1',m1,u1⟩:=HW.out
   have hrow:=AP p s 1 wr h1' u1.au m1.MG (by omega) (by omega)
   rw[show((1:Nat):Int)=1 from rfl]at hrow
   clear HL HF HV HW
   cases hq:nD 1 s.pages 0 0 with
   |none=>
    have V4:Hid (F=none):=Lib.hid (by rw[HF2.out,hq];rfl)
    rw[hq]at hrow
    simp only[yH,Option.isSome_none]at hrow
    have HM:=Lib.hid m1
    have HU:=Lib.hid u1
    clear hq HF2 u1 m1
    go_wp2_with(go_at_call 186;refine Calls.mono hrow ?_;rintro e w9 ⟨rfl,rfl⟩;clear hrow)
    go_ret2
    rw[V4.out]
    exact⟨rfl,oV,h1',HM.out,HU.out⟩
   |some n=>
    have V4:Hid (F=some (s.begin n,s.bu n (iH size s.words))):=Lib.hid (by rw[HF2.out,hq];rfl)
    rw[hq]at hrow
    simp only[yH,Option.isSome_some]at hrow
    have hnl:n<s.pages.length:=Rn hq
    obtain⟨g,hg⟩: ∃g,s.pages[n]? =some g:=⟨_,List.getElem?_eq_getElem hnl⟩
    obtain⟨q0,q1,q2⟩:=m1.cells u1.au
    obtain⟨v,hp,hr,hok⟩:=m1.row hg
    have hcells:=fun W=>Gs s.words size W (by omega) (by omega) a3 (by omega)
    have e4:1<=s.words/size:=by
     have:size*1<=s.words:=by omega
     exact(Int.le_ediv_iff_mul_le (by omega)).2 (by omega)
    have e5:s.words/size<=s.words:=Int.ediv_le_self _ (by omega)
    obtain⟨c,hc⟩: ∃c:Nat,s.words/size=c:=⟨(s.words/size).toNat,by omega⟩
    rw[hc]at hcells e4 e5
    have hmk:=fun W=>vg (P:=Tryz.prog) W 107 4 (.bool false) 1 Tryz.underlying107 Tryz.Gf rfl c (by omega) (by decide)
    obtain⟨RL,hRL⟩: ∃RL,RL=List.replicate c (Value.bool false):=⟨_,rfl⟩
    rw[<-hRL]at hmk
    have HRL:=Lib.hid hRL
    obtain⟨d0,d1,d2,d3⟩:=m1.page u1.au hr
    simp only at d0 d1 d2 d3
    have hfz: ∀i,wr.frozen? ⟨b,i,none⟩=false:=fun i=>aO (m1.list u1.au) i
    have x0:wr.drew.cell? ⟨b,n*4,none⟩=some (.int .i64 g.kind):=d0
    have x1:wr.drew.cell? ⟨b,n*4+1,none⟩=some (.int .i64 g.size):=d1
    have x2:wr.drew.cell? ⟨b,n*4+2,none⟩=some v:=d2
    have x3:wr.drew.cell? ⟨b,n*4+3,none⟩=some (.bool g.pending):=d3
    have y0:=Ux (o:= .cells RL.toArray 4 (0,0)) x0
    have y1:=Ux (o:= .cells RL.toArray 4 (0,0)) x1
    have y2:=Ux (o:= .cells RL.toArray 4 (0,0)) x2
    have y3:=Ux (o:= .cells RL.toArray 4 (0,0)) x3
    have hbp:=m1.ne u1.au
    have z0:=hfz (n*4)
    have z1:=hfz (n*4+1)
    have z2:=hfz (n*4+2)
    have z3:=hfz (n*4+3)
    have hblt:b<wr.heap.size:=World.block_lt_of_cell? _ _ d0
    have hbne:b≠wr.heap.size:=by omega
    have hplt:p<wr.heap.size:=World.block_lt_of_cell? _ _ q1
    have uG:p≠wr.heap.size:=by omega
    have f0:=XA (o:= .cells RL.toArray 4 (0,0)) x0 (hfz (n*4))
    have f1:=XA (o:= .cells RL.toArray 4 (0,0)) x0 (hfz (n*4+1))
    have f2:=XA (o:= .cells RL.toArray 4 (0,0)) x0 (hfz (n*4+2))
    have f3:=XA (o:= .cells RL.toArray 4 (0,0)) x0 (hfz (n*4+3))
    have s1:wr.drew.cell? ⟨p,1,none⟩=some (.int .i64 s.words):=q1
    have s2:wr.drew.cell? ⟨p,2,none⟩=some (.slice (some ⟨b,0,none⟩) s.pages.length s.pages.length):=q2
    have s3:=Ux (o:= .cells RL.toArray 4 (0,0)) s1
    have s4:=Ux (o:= .cells RL.toArray 4 (0,0)) s2
    have hS0:=And.intro s1 s2
    have hS1:=And.intro s3 s4
    have HM:=Lib.hid m1
    have HU:=Lib.hid u1
    have HO:=Lib.hid hok
    have HC:=Lib.hid hc
    have HR1:=Lib.hid hr
    clear hRL hr hc hok m1 u1 hq HF2 hg hfz x0 x1 x2 x3 s1 s2 s3 s4 q0 c0 c1 c2
    go_wp2_with(go_at_call 186;refine Calls.mono hrow ?_;rintro e w9 ⟨rfl,rfl⟩;clear hrow)
    go_region_held3 (fun w'=>w'.cell? ⟨p,1,none⟩=some (.int .i64 s.words)/\w'.cell? ⟨p,2,none⟩=some (.slice (some ⟨b,0,none⟩) s.pages.length s.pages.length))
     (first|with_reducible exact hS0|with_reducible exact hS1|with_reducible exact keeps (keeps (keeps (keeps hS1 hbp) hbp) hbp) hbp|go_keep)
     (first|(go_at_call 194;refine Calls.mono (hcells _) ?_;rintro e w7 ⟨rfl,rfl⟩))
    clear y0 y1 y2 y3 f0 f1 f2 f3 hS0 hS1 z0 z1 z2 z3 d0 d1 d2 d3 hmk hcells q1 q2
    have U1:=HU.out
    have m1:=HM.out
    rw[m1.1]at U1
    have hr1:=HR1.out
    have U2:=((((aj.store' (l:=[(p,gY s b)]) (b:=b) (arr:=(oV.flatMap dw).toArray) U1 (n*4) (.int .i64 1)).store' (l:=[(p,gY s b)]) (n*4+1) (.int .i64 size)).store' (l:=[(p,gY s b)]) (n*4+2) (.slice (some ⟨w9.heap.size,0,none⟩) c c)).store' (l:=[(p,gY s b)]) (n*4+3) (.bool false))
    have e4':=xJ (g:=iH size s.words) (v:= .slice (some ⟨w9.heap.size,0,none⟩) c c) (k:=hp) hr1
    simp only[iH]at e4'
    rw[e4']at U2
    have U3:=(U2.alloc' (.cells RL.toArray 4 (0,0))).drew'
    simp only[World.size_setCell]at U3
    have hn1:n<oV.length:=(List.getElem?_eq_some_iff.1 hr1).1
    have e5':oV.map (·.2.2)=(oV.set n (iH size s.words, .slice (some ⟨w9.heap.size,0,none⟩) c c,hp)).map (·.2.2):=by
     rw[List.map_set,set_self]
     rw[List.getElem?_map,hr1]
     rfl
    generalize hzz:w9.heap.size=z at*
    generalize hW:(((((w9.setCell ⟨b,n*4,none⟩ (.int .i64 1)).setCell ⟨b,n*4+1,none⟩ (.int .i64 size)).setCell ⟨b,n*4+2,none⟩ (.slice (some ⟨z,0,none⟩) c c)).setCell ⟨b,n*4+3,none⟩ (.bool false)).alloc (.cells RL.toArray 4 (0,0))).drew=W at*
    have U4:aj h ((z, .cells RL.toArray 4 (0,0))::(gZ p s b (oV.set n (iH size s.words, .slice (some ⟨z,0,none⟩) c c,hp))).flatten) w W:=by
     unfold gZ
     rw[<-e5']
     exact U3
    clear U1 U2 U3 e4' e5' m1 hr1
    have t2:W.cell? ⟨p,2,none⟩=some (.slice (some ⟨b,0,none⟩) s.pages.length s.pages.length):=cell_of (U4.au.tail.part (i:=0) rfl).head 2
    have hrn:(oV.set n (iH size s.words, .slice (some ⟨z,0,none⟩) c c,hp))[n]? =some (iH size s.words, .slice (some ⟨z,0,none⟩) c c,hp):=by simp[hn1]
    obtain⟨_,_,r2,_⟩:=AA (U4.au.tail.part (i:=1) rfl).head hrn
    simp only at r2
    have tz:W.cell? ⟨z,0,none⟩=some (.bool false):=by
     rw[cell_of U4.au.head 0,HRL.out]
     have:0<c:=by omega
     simp[this]
    have fz:W.frozen? ⟨z,0,none⟩=false:=aO U4.au.head 0
    have XB:=Lib.hid U4
    have hfin: ∃h',bn p b (oV.set n (iH size s.words, .slice (some ⟨z,0,none⟩) c c,[(z, .cells (RL.toArray.setIfInBounds 0 (.bool true)) 4 (0,0))])) (s.bu n (iH size s.words)) h'/\aj h h' w (W.setCell ⟨z,0,none⟩ (.bool true)):=by
     refine bn.set HM.out n (iH size s.words) _ _ ?_ HR1.out (U4.store1 0 (.bool true))
     have e6:RL.toArray.setIfInBounds 0 (.bool true)=(bools ((List.replicate c false).set 0 true)).toArray:=by rw[HRL.out,MJ]
     have e7:(iH size s.words).used=(List.replicate c false).set 0 true:=by simp only[iH,HC.out,Int.toNat_natCast]
     have hl:((List.replicate c false).set 0 true).length=c:=by simp
     have hS:=aK.made (T:=4) (g:=z) (xs:=bools ((List.replicate c false).set 0 true)) (n:=c) (by simp[bools]) (by unfold maxLen;omega)
     rw[e6]
     refine⟨?_, ?_⟩
     ·simp only[e7,hl]
      exact hS
     ·simp only[e7,hl]
      omega
    have HFin:=Lib.hid hfin
    have HB:=Lib.hid (fun W' h' (hW:In W' h') rows' (mm:bn p b rows' (s.bu n (iH size s.words)) h')=>pF p _ n W' h' hW mm.MG (by omega))
    have hbe:Hid ((s.bu n (iH size s.words)).begin n=s.begin n):=Lib.hid rfl
    clear hfin U4 hrn hW hzz hn1
    go_wp2_with(go_at_call 183;(obtain⟨h8,m8,u8⟩:=HFin.out);refine Calls.mono (HB.out _ _ u8.au _ m8) ?_;rintro e w8 ⟨rfl,u9⟩;have M8:=Lib.hid m8;have U9:=Lib.hid (u8.trans u9);clear u8 u9 m8)
    go_ret2
    rw[V4.out,hbe.out]
    exact⟨rfl,_,h8,M8.out,U9.out⟩
end Go.Proofs.YtibemcgdmembeaaGreat
namespace Go.Proofs.YtibemcgdmembeaaGreat
open Go.RowKit
def uH:bC:=⟨3,0,[],false⟩
def kW(words:Int):bC:=⟨2,words,[],false⟩
def iI(l:List bC)(n:Nat):Nat->List bC
 |0=>l
 |c+1=>(iI l n c).set (n+c) uH
theorem mG(l:List bC)(n:Nat): ∀c,(iI l n c).length=l.length
 |0=>rfl
 |c+1=>by simp[iI,mG l n c]
def aP.DZ(s:aP)(words:Int)(o:Option Nat):Option (Int×aP):=match o with
 |some n=>some (s.begin n,{s with pages:=(iI s.pages n (dS s.words words).toNat).set n (kW words)})
 |none=>none
def aP.take(s:aP)(words:Int):Option (Int×aP):=
 if qI s.words words then s.DZ words (nD (dS s.words words).toNat s.pages 0 0)else s.inB (wK words)
theorem Gt{c:Nat}(hc:1<=c){l:List bC}{n:Nat}(h:nD c l 0 0=some n):n+c<=l.length:=by
 have key: ∀(l:List bC) (k run n:Nat),run<c->nD c l k run=some n->n+c<=k+l.length∨c>k+1:=by
  intro l
  induction l with
  |nil=>intro k run n _ h;cases h
  |cons g l ih=>
   intro k run n hr h
   unfold nD at h
   simp only[List.length_cons]
   split at h
   ·split at h
    ·cases h
     omega
    ·have:=ih _ _ _ (by omega) h
     omega
   ·have:=ih _ _ _ (by omega) h
    omega
 have XX: ∀(l:List bC) (k run n:Nat),run<=k->run<c->nD c l k run=some n->n+c<=k+l.length:=by
  intro l
  induction l with
  |nil=>intro k run n _ _ h;cases h
  |cons g l ih=>
   intro k run n hk hr h
   unfold nD at h
   simp only[List.length_cons]
   split at h
   ·split at h
    ·cases h
     omega
    ·have:=ih _ _ _ (by omega) (by omega) h
     omega
   ·have:=ih _ _ _ (by omega) (by omega) h
    omega
 have:=XX l 0 0 n (by omega) (by omega) h
 omega
theorem bn.blank{p b:Nat}{rows:List jM}{s:aP}{h h0:Hp}{w0 w:World}(m:bn p b rows s h)(U:aj h0 h w0 w){n:Nat}{g0:bC}(hg:s.pages[n]? =some g0)(g:bC)(hu:g.used=[]):
  ∃rows' h',bn p b rows' (s.bu n g) h'/\aj h0 h' w0 ((((w.setCell ⟨b,n*4,none⟩ (.int .i64 g.kind)).setCell ⟨b,n*4+1,none⟩ (.int .i64 g.size)).setCell ⟨b,n*4+2,none⟩ (.slice none 0 0)).setCell ⟨b,n*4+3,none⟩ (.bool g.pending)):=by
 obtain⟨v,hp,hr,_⟩:=m.row hg
 have hn:n<rows.length:=(List.getElem?_eq_some_iff.1 hr).1
 rw[m.1]at U
 have U2:=((((aj.store' (l:=[(p,gY s b)]) (b:=b) (arr:=(rows.flatMap dw).toArray) U (n*4) (.int .i64 g.kind)).store' (l:=[(p,gY s b)]) (n*4+1) (.int .i64 g.size)).store' (l:=[(p,gY s b)]) (n*4+2) (.slice none 0 0)).store' (l:=[(p,gY s b)]) (n*4+3) (.bool g.pending))
 have e:=xJ (g:=g) (v:= .slice none 0 0) (k:=hp) hr
 rw[e]at U2
 have e5:rows.map (·.2.2)=(rows.set n (g, .slice none 0 0,hp)).map (·.2.2):=by
  rw[List.map_set,set_self]
  rw[List.getElem?_map,hr]
  rfl
 obtain⟨h',m',U'⟩:=bn.set (h0:=h0) (w0:=w0) m n g (.slice none 0 0) [] (by rw[DL,hu];exact⟨aK.nil _ _,by decide⟩) hr (by unfold gZ;rw[<-e5];exact U2)
 exact⟨_,h',m',U'⟩
theorem bn.wM{p b:Nat}{rows:List jM}{s:aP}{h:Hp}{w:World}(m:bn p b rows s h)(hi:In w h){n:Nat}{g:bC}(hg:s.pages[n]? =some g):
  (∃a,w.cell? ⟨b,n*4,none⟩=some a)/\ (∃a,w.cell? ⟨b,n*4+1,none⟩=some a)/\ (∃a,w.cell? ⟨b,n*4+2,none⟩=some a)/\ (∃a,w.cell? ⟨b,n*4+3,none⟩=some a)/\ (∀i,w.frozen? ⟨b,i,none⟩=false):=by
 obtain⟨v,hp,hr,_⟩:=m.row hg
 obtain⟨d0,d1,d2,d3⟩:=m.page hi hr
 exact⟨⟨_,d0⟩,⟨_,d1⟩,⟨_,d2⟩,⟨_,d3⟩,fun i=>aO (m.list hi) i⟩
theorem Gu(p:Nat)(s:aP)(words:Int)(w:World)(h:Hp)(hi:In w h)(hm:eF p s h)(h1:1<=words)(h2:words<=66)(h3:16<=s.words):
  Calls Tryz.prog 157 #[.pointer (some ⟨p,0,none⟩), .int .i64 words] w fun e w'=>e= .returned (.tuple #[.int .i64 (Ro (s.take words)), .bool (s.take words).isSome])/\ ∃h',eF p (Rq s (s.take words)) h'/\aj h h' w w':=by
 obtain⟨b,rows,m⟩:=hm.rows
 obtain⟨c0,c1,c2⟩:=m.cells hi
 obtain⟨a1,a2,a3,a4,a5⟩:=m.2.2.2
 have hl:=fun W=>zk s.words words W h2 (by omega) (by omega)
 have hrd:=fun W=>uF words W h2
 have U0:=aj.refl hi
 cases hL:qI s.words words
 ·have e1:s.take words=s.inB (wK words):=by simp[aP.take,hL]
  rw[e1]
  rw[hL]at hl
  obtain⟨r1,r2⟩:=sD words
  have hle:wK words<=s.words:=by
   simp only[qI,decide_eq_false_iff_not]at hL
   omega
  have hin:=AQ p b rows s (wK words) w h hi m r1 hle
  have hU:=Lib.hid U0
  generalize s.inB (wK words)=F at*
  generalize wK words=R at*
  clear e1 hL m U0
  go_enter Tryz.func157,Tryz.ntmps157
  go_wp2_with(first
   | (go_at_call 123;with_reducible refine Calls.mono (hl _) ?_;rintro e w' ⟨rfl,hw⟩;obtain rfl:=hw.symm;clear hw)
   | (go_at_call 124;with_reducible refine Calls.mono (hrd _) ?_;rintro e w' ⟨rfl,rfl⟩)
   | (go_at_call 185;refine Calls.mono hin ?_;rintro e w1 ⟨rfl,rows',h',m',u'⟩))
  go_ret2
  exact⟨rfl,h',m'.MG,u'⟩
 ·rw[hL]at hl
  obtain⟨g1,g2,g3⟩:=fU h1 h2 h3
  have Af:=fun W=>qh s.words words W h1 h2 h3 (by omega)
  obtain⟨c,hc⟩: ∃c:Nat,dS s.words words=c:=⟨(dS s.words words).toNat,by omega⟩
  have e1:s.take words=s.DZ words (nD c s.pages 0 0):=by simp[aP.take,hL,hc]
  rw[e1]
  rw[hc]at Af g1 g2
  have hrow:=fun W h' rows' (hW:In W h') (mm:bn p b rows' s h')=>AP p s c W h' hW mm.MG (by omega) (by omega)
  cases hq:nD c s.pages 0 0 with
  |none=>
   have HV:Hid (s.DZ words none=none):=Lib.hid rfl
   have HM:=Lib.hid m
   have HU:=Lib.hid U0
   have HR:=Lib.hid hrow
   rw[hq]at HR
   simp only[yH,Option.isSome_none]at HR
   clear e1 hc hL m U0 hrow hq
   go_enter Tryz.func157,Tryz.ntmps157
   go_wp2_with(first
    | (go_at_call 123;with_reducible refine Calls.mono (hl _) ?_;rintro e w' ⟨rfl,hw⟩;obtain rfl:=hw.symm;clear hw)
    | (go_at_call 87;with_reducible refine Calls.mono (Af _) ?_;rintro e w' ⟨rfl,k1,rfl⟩;have Gq:=Lib.hid (HU.out.drewN' k1))
    | (go_at_call 186;refine Calls.mono (HR.out _ _ _ Gq.out.au HM.out) ?_;rintro e w1 ⟨rfl,rfl⟩))
   go_ret2
   rw[HV.out]
   exact⟨rfl,h,HM.out.MG,Gq.out⟩
  |some n=>
   have hfit:=Gt (by omega) hq
   have HV:Hid (s.DZ words (some n)=some (s.begin n,{s with pages:=(iI s.pages n c).set n (kW words)})):=Lib.hid (by simp[aP.DZ,hc])
   have HM:=Lib.hid m
   have HU:=Lib.hid U0
   have HR:=Lib.hid hrow
   rw[hq]at HR
   simp only[yH,Option.isSome_some]at HR
   have HB:=Lib.hid (fun W' h' (hW:In W' h') (mm:eF p {s with pages:=(iI s.pages n c).set n (kW words)} h')=>pF p _ n W' h' hW mm (by omega))
   have hbe:Hid (({s with pages:=(iI s.pages n c).set n (kW words)}:aP).begin n=s.begin n):=Lib.hid rfl
   clear e1 hc hL m U0 hrow hq
   go_enter Tryz.func157,Tryz.ntmps157
   go_wp2_with(first
    | (go_at_call 123;with_reducible refine Calls.mono (hl _) ?_;rintro e w' ⟨rfl,hw⟩;obtain rfl:=hw.symm;clear hw)
    | (go_at_call 87;with_reducible refine Calls.mono (Af _) ?_;rintro e w' ⟨rfl,k1,rfl⟩;have Gq:=Lib.hid (HU.out.drewN' k1))
    | (go_at_call 186;refine Calls.mono (HR.out _ _ _ Gq.out.au HM.out) ?_;rintro e w1 ⟨rfl,rfl⟩))
   have HS:Hid (∃rows' h',bn p b rows' {s with pages:=iI s.pages n 0} h'/\aj h h' w (w.drewN k1)):=Lib.hid ⟨rows,h,HM.out,Gq.out⟩
   go_loopw [44] (fun i wr=> ∃k:Nat,k<=c/\i= .int .i64 k/\Hid (∃rows' h',bn p b rows' {s with pages:=iI s.pages n k} h'/\aj h h' w wr)) (fun i _=>c-(intOf i).toNat)
   case atStart=>exact⟨0,by omega,rfl,HS⟩
   case round=>
    obtain⟨k,hk,rfl,HW⟩:=hrel
    obtain⟨oV,h1',m1,u1⟩:=HW.out
    obtain⟨q0,q1,q2⟩:=m1.cells u1.au
    have hln:(iI s.pages n k).length=s.pages.length:=mG ..
    simp only[hln]at q0 q1 q2
    by_cases hlt:k<c
    ·have hnk:n+k<s.pages.length:=by omega
     obtain⟨g0,hg0⟩: ∃g0,(iI s.pages n k)[n+k]? =some g0:=⟨_,List.getElem?_eq_getElem (by omega)⟩
     obtain⟨⟨x0,d0⟩,⟨x1,d1⟩,⟨x2,d2⟩,⟨x3,d3⟩,hf⟩:=m1.wM u1.au hg0
     have f0:=hf ((n+k)*4)
     have f1:=hf ((n+k)*4+1)
     have f2:=hf ((n+k)*4+2)
     have f3:=hf ((n+k)*4+3)
     have HN:Hid (∃rows' h',bn p b rows' {s with pages:=iI s.pages n (k+1)} h'/\aj h h' w ((((wr.setCell ⟨b,(n+k)*4,none⟩ (.int .i64 3)).setCell ⟨b,(n+k)*4+1,none⟩ (.int .i64 0)).setCell ⟨b,(n+k)*4+2,none⟩ (.slice none 0 0)).setCell ⟨b,(n+k)*4+3,none⟩ (.bool false))):=Lib.hid (m1.blank u1 hg0 uH rfl)
     have ens:((n:Int)+k).toNat=n+k:=by omega
     have hz0:0<=(n:Int)+k:=by omega
     have hz1:(n:Int)+k<s.pages.length:=by omega
     have hz2:IntKind.i64.wrap ((n:Int)+k)=n+k:=IntWalk.i64_in _ (by omega)
     clear m1 u1 HW hf hln hg0
     go_wp2
     go_roundw
     case rel=>exact⟨k+1,by omega,by go_num,HN⟩
     case measure=>simp[intOf];omega
    ·obtain rfl:k=c:=by omega
     have hnk:n<s.pages.length:=by omega
     obtain⟨g0,hg0⟩: ∃g0,(iI s.pages n k)[n]? =some g0:=⟨_,List.getElem?_eq_getElem (by omega)⟩
     obtain⟨⟨x0,d0⟩,⟨x1,d1⟩,⟨x2,d2⟩,⟨x3,d3⟩,hf⟩:=m1.wM u1.au hg0
     have f0:=hf (n*4)
     have f1:=hf (n*4+1)
     have f2:=hf (n*4+2)
     have f3:=hf (n*4+3)
     have HN:Hid (∃rows' h',bn p b rows' {s with pages:=(iI s.pages n k).set n (kW words)} h'/\aj h h' w ((((wr.setCell ⟨b,n*4,none⟩ (.int .i64 2)).setCell ⟨b,n*4+1,none⟩ (.int .i64 words)).setCell ⟨b,n*4+2,none⟩ (.slice none 0 0)).setCell ⟨b,n*4+3,none⟩ (.bool false))):=Lib.hid (m1.blank u1 hg0 (kW words) rfl)
     clear m1 u1 HW hf hln hg0
     go_wp2_with(go_at_call 183;(obtain⟨rows8,h8,m8,u8⟩:=HN.out);refine Calls.mono (HB.out _ _ u8.au m8.MG) ?_;rintro e w8 ⟨rfl,u9⟩;have M8:=Lib.hid m8;have U9:=Lib.hid (u8.trans u9);clear u8 u9 m8)
     go_ret2
     rw[HV.out,hbe.out]
     exact⟨rfl,h8,M8.out.MG,U9.out⟩
end Go.Proofs.YtibemcgdmembeaaGreat
namespace Go.Proofs.YtibemcgdmembeaaGreat
open Go.RowKit
def jq(g:bC)(r:Int):Option Nat:=
 if g.kind=2/\r=0 then some 0
 else if g.kind=1/\r % g.size=0 then(if(r/g.size).toNat<g.used.length then(if g.used.getD (r/g.size).toNat false=true then some (r/g.size).toNat else none)else none)else none
def aP.at(s:aP)(a:Int):Option (Nat×Nat):=
 if a<s.base then none else
 match s.pages[((a-s.base)/s.words).toNat]? with
 |none=>none
 |some g=>(jq g ((a-s.base) % s.words)).map fun k=>(((a-s.base)/s.words).toNat,k)
def O9(o:Option (Nat×Nat)):Int:=match o with|some x=>x.1|none=>0
def O_(o:Option (Nat×Nat)):Int:=match o with|some x=>x.2|none=>0
def bC.Ok(g:bC):Prop:=(g.kind=1->4<=g.size/\g.size<=96)/\ (g.kind=2->1<=g.size/\g.size<=66)/\g.used.length<=256/\ (g.kind≠1->g.used=[])
def aP.Ok(s:aP):Prop:=16<=s.words/\ ∀(n:Nat) (g:bC),s.pages[n]? =some g->g.Ok
theorem D5(p:Nat)(s:aP)(a:Int)(w:World)(h:Hp)(hi:In w h)(hm:eF p s h)(ok:s.Ok)(ha:I64 a):
  Calls Tryz.prog 86 #[.pointer (some ⟨p,0,none⟩), .int .i64 a] w fun e w'=>e= .returned (.tuple #[.int .i64 (O9 (s.at a)), .int .i64 (O_ (s.at a)), .bool (s.at a).isSome])/\aj h h w w':=by
 obtain⟨b,rows,m⟩:=hm.rows
 obtain⟨c0,c1,c2⟩:=m.cells hi
 obtain⟨a1,a2,a3,a4,a5⟩:=m.2.2.2
 obtain⟨hw16,Af⟩:=ok
 obtain⟨ha1,ha2⟩:=ha
 have U0:=aj.refl hi
 by_cases hlt:a<s.base
 ·have HV:Hid (s.at a=none):=Lib.hid (by simp[aP.at,hlt])
  rw[HV.out]
  clear m
  go_enter Tryz.func86,Tryz.ntmps86
  go_wp2
  go_ret3
  exact⟨rfl,U0⟩
 ·have hd:IntKind.i64.wrap (a-s.base)=a-s.base:=IntWalk.i64_in _ (by omega)
  obtain⟨d,hdd⟩: ∃d,d=a-s.base:=⟨_,rfl⟩
  have hd0:0<=d:=by omega
  have hn0:0<=d/s.words:=Int.ediv_nonneg hd0 (by omega)
  have hn1:d/s.words<=d:=Int.ediv_le_self _ hd0
  have hr0:0<=d % s.words:=Int.emod_nonneg d (by omega)
  have hr1:d % s.words<s.words:=Int.emod_lt_of_pos d (by omega)
  have ht:d.tdiv s.words=d/s.words:=Int.tdiv_eq_ediv_of_nonneg hd0
  have ht2:d.tmod s.words=d % s.words:=Int.tmod_eq_emod_of_nonneg hd0
  obtain⟨n,hn⟩: ∃n:Nat,d/s.words=n:=⟨(d/s.words).toNat,by omega⟩
  obtain⟨r,hr⟩: ∃r,r=d % s.words:=⟨_,rfl⟩
  have hwz:s.words≠0:=by omega
  have HE:Hid (s.at a=match s.pages[n]? with
   |none=>none
   |some g=>(jq g r).map fun k=>(n,k)):=Lib.hid (by
    have e:(d/s.words).toNat=n:=by omega
    rw[aP.at,if_neg hlt,<-hdd,e,<-hr])
  rw[hn]at ht hn0 hn1
  rw[<-hr]at ht2 hr0 hr1
  have wn:IntKind.i64.wrap (n:Int)=n:=IntWalk.i64_in _ (by omega)
  have wr:IntKind.i64.wrap r=r:=IntWalk.i64_in _ (by omega)
  rw[<-hdd]at hd
  have hq1:a-s.base=d:=hdd.symm
  clear hdd hn hr
  by_cases hnl:n<s.pages.length
  ·obtain⟨g,hg⟩: ∃g,s.pages[n]? =some g:=⟨_,List.getElem?_eq_getElem hnl⟩
   have HE2:Hid (s.at a=(jq g r).map fun k=>(n,k)):=Lib.hid (by rw[HE.out,hg])
   obtain⟨k1,k2,k3⟩:=Af n g hg
   obtain⟨v,hp,hrow,hok⟩:=m.row hg
   obtain⟨d0,d1,d2,d3⟩:=m.page hi hrow
   have sG:=m.part hi hrow
   simp only at d0 d1 d2 d3
   have hS:=hok.1
   simp only at hS sG
   obtain⟨ao,cap,rfl,hcap⟩:=hS.shape
   have HC:Hid (∀k,k<g.used.length-> ∃gb off,ao=some ⟨gb,off,none⟩/\w.cell? ⟨gb,off+k,none⟩=some (.bool (g.used.getD k false))/\gb<w.heap.size):=Lib.hid (by
    intro k hk
    obtain⟨gb,off,cap',hv,_⟩:=hS.addr (by omega)
    have hc:=hS.cell sG hv (j:=k) (by simpa using hk)
    simp only[Value.slice.injEq]at hv
    have e:w.cell? ⟨gb,off+k,none⟩=some (.bool (g.used.getD k false)):=by
     rw[hc]
     simp[List.getD,hk]
    exact⟨gb,off,hv.1,e,World.block_lt_of_cell? _ _ e⟩)
   have hbl:b<w.heap.size:=World.block_lt_of_cell? _ _ d0
   have hbne:b≠w.heap.size:=by omega
   have hpl:p<w.heap.size:=World.block_lt_of_cell? _ _ c0
   have uG:p≠w.heap.size:=by omega
   clear HE hg hS hok hrow sG m Af
   by_cases g2:g.kind=2
   ·rw[g2]at d0
    by_cases r0:r=0
    ·subst r0
     have q0:((0:Int)==0)=true:=rfl
     rw[HE2.out]
     have HV:Hid ((jq g 0).map (fun k=>(n,k))=some (n,0)):=Lib.hid (by simp[jq,g2])
     rw[HV.out]
     clear HE2 k1 k2
     go_enter Tryz.func86,Tryz.ntmps86
     go_wp2
     go_quiet (fail)
     have U2:=U0.drewN' nq
     have c2':(w.drewN nq).cell? ⟨p,2,none⟩=_:=c2
     have d0':(w.drewN nq).cell? ⟨b,n*4,none⟩=_:=d0
     have d1':(w.drewN nq).cell? ⟨b,n*4+1,none⟩=_:=d1
     have VI:(w.drewN nq).cell? ⟨b,n*4+2,none⟩=_:=d2
     have VJ:(w.drewN nq).cell? ⟨b,n*4+3,none⟩=_:=d3
     have MK:b≠(w.drewN nq).heap.size:=hbne
     have ML:p≠(w.drewN nq).heap.size:=uG
     clear c0 c1 c2 d0 d1 d2 d3 hbne uG hbl hpl U0 hi
     generalize w.drewN nq=W2 at*
     go_wp2
     go_ret3
     exact⟨rfl,U2.skip' _⟩
    ·have q0:(r==0)=false:=by simpa using r0
     rw[HE2.out]
     have HV:Hid ((jq g r).map (fun k=>(n,k))=none):=Lib.hid (by simp[jq,g2,r0])
     rw[HV.out]
     clear HE2 k1 k2
     go_enter Tryz.func86,Tryz.ntmps86
     go_wp2
     go_quiet (fail)
     have U2:=U0.drewN' nq
     have c2':(w.drewN nq).cell? ⟨p,2,none⟩=_:=c2
     have d0':(w.drewN nq).cell? ⟨b,n*4,none⟩=_:=d0
     have d1':(w.drewN nq).cell? ⟨b,n*4+1,none⟩=_:=d1
     have VI:(w.drewN nq).cell? ⟨b,n*4+2,none⟩=_:=d2
     have VJ:(w.drewN nq).cell? ⟨b,n*4+3,none⟩=_:=d3
     have MK:b≠(w.drewN nq).heap.size:=hbne
     have ML:p≠(w.drewN nq).heap.size:=uG
     clear c0 c1 c2 d0 d1 d2 d3 hbne uG hbl hpl U0 hi
     generalize w.drewN nq=W2 at*
     go_wp2
     go_quiet (fail)
     go_wp2
     go_ret3
     exact⟨rfl,(U2.skip' _).drewN' _⟩
   ·by_cases g1:g.kind=1
    ·rw[g1]at d0
     obtain⟨s1,s2⟩:=k1 g1
     have hz:g.size≠0:=by omega
     have t1:r.tmod g.size=r % g.size:=Int.tmod_eq_emod_of_nonneg hr0
     have t2:r.tdiv g.size=r/g.size:=Int.tdiv_eq_ediv_of_nonneg hr0
     have m0:0<=r % g.size:=Int.emod_nonneg r hz
     have m1:r % g.size<g.size:=Int.emod_lt_of_pos r (by omega)
     have q0:0<=r/g.size:=Int.ediv_nonneg hr0 (by omega)
     have q1:r/g.size<=r:=Int.ediv_le_self _ hr0
     obtain⟨q,hq⟩: ∃q:Nat,r/g.size=q:=⟨(r/g.size).toNat,by omega⟩
     rw[hq]at t2 q0 q1
     have wq:IntKind.i64.wrap (q:Int)=q:=IntWalk.i64_in _ (by omega)
     have wm:IntKind.i64.wrap (r % g.size)=r % g.size:=IntWalk.i64_in _ (by omega)
     have HQ:=Lib.hid hq
     clear hq
     by_cases z:r % g.size=0
     ·rw[z]at t1 wm m0 m1
      have Z:=Lib.hid z
      clear z
      by_cases ql:q<g.used.length
      ·obtain⟨gb,off,rfl,hcell,Rt⟩:=HC.out q ql
       cases hu:g.used.getD q false
       ·rw[hu]at hcell
        have HU:=Lib.hid hu
        clear hu
        have g2':(g.kind==2)=false:=by simpa using g2
        rw[HE2.out]
        have HV:Hid ((jq g r).map (fun k=>(n,k))=none):=Lib.hid (by rw[jq,if_neg (by omega),if_pos ⟨g1,Z.out⟩,HQ.out,Int.toNat_natCast,if_pos ql,if_neg (by rw[HU.out];decide)];rfl)
        rw[HV.out]
        clear HE2 k1 k2
        go_enter Tryz.func86,Tryz.ntmps86
        go_wp2
        go_quiet (fail)
        have U2:=U0.drewN' nq
        have c2':(w.drewN nq).cell? ⟨p,2,none⟩=_:=c2
        have d0':(w.drewN nq).cell? ⟨b,n*4,none⟩=_:=d0
        have d1':(w.drewN nq).cell? ⟨b,n*4+1,none⟩=_:=d1
        have VI:(w.drewN nq).cell? ⟨b,n*4+2,none⟩=_:=d2
        have VJ:(w.drewN nq).cell? ⟨b,n*4+3,none⟩=_:=d3
        have MK:b≠(w.drewN nq).heap.size:=hbne
        have ML:p≠(w.drewN nq).heap.size:=uG
        have hcell':(w.drewN nq).cell? ⟨gb,off+q,none⟩=_:=hcell
        have XY:gb<(w.drewN nq).heap.size:=Rt
        clear hcell Rt HC
        clear c0 c1 c2 d0 d1 d2 d3 hbne uG hbl hpl U0 hi
        generalize w.drewN nq=W2 at*
        go_wp2
        go_quiet (fail)
        go_wp2
        go_ret3
        exact⟨rfl,(U2.skip' _).drewN' _⟩
       ·rw[hu]at hcell
        have HU:=Lib.hid hu
        clear hu
        have g2':(g.kind==2)=false:=by simpa using g2
        rw[HE2.out]
        have HV:Hid ((jq g r).map (fun k=>(n,k))=some (n,q)):=Lib.hid (by rw[jq,if_neg (by omega),if_pos ⟨g1,Z.out⟩,HQ.out,Int.toNat_natCast,if_pos ql,if_pos HU.out];rfl)
        rw[HV.out]
        clear HE2 k1 k2
        go_enter Tryz.func86,Tryz.ntmps86
        go_wp2
        go_quiet (fail)
        have U2:=U0.drewN' nq
        have c2':(w.drewN nq).cell? ⟨p,2,none⟩=_:=c2
        have d0':(w.drewN nq).cell? ⟨b,n*4,none⟩=_:=d0
        have d1':(w.drewN nq).cell? ⟨b,n*4+1,none⟩=_:=d1
        have VI:(w.drewN nq).cell? ⟨b,n*4+2,none⟩=_:=d2
        have VJ:(w.drewN nq).cell? ⟨b,n*4+3,none⟩=_:=d3
        have MK:b≠(w.drewN nq).heap.size:=hbne
        have ML:p≠(w.drewN nq).heap.size:=uG
        have hcell':(w.drewN nq).cell? ⟨gb,off+q,none⟩=_:=hcell
        have XY:gb<(w.drewN nq).heap.size:=Rt
        clear hcell Rt HC
        clear c0 c1 c2 d0 d1 d2 d3 hbne uG hbl hpl U0 hi
        generalize w.drewN nq=W2 at*
        go_wp2
        go_quiet (fail)
        go_wp2
        go_quiet (fail)
        go_wp2
        go_ret3
        exact⟨rfl,((U2.skip' _).drewN' _).drewN' _⟩
      ·have g2':(g.kind==2)=false:=by simpa using g2
       have ql':decide (q<g.used.length)=false:=decide_eq_false ql
       rw[HE2.out]
       have HV:Hid ((jq g r).map (fun k=>(n,k))=none):=Lib.hid (by rw[jq,if_neg (by omega),if_pos ⟨g1,Z.out⟩,HQ.out,Int.toNat_natCast,if_neg ql];rfl)
       rw[HV.out]
       clear HE2 k1 k2
       go_enter Tryz.func86,Tryz.ntmps86
       go_wp2
       go_quiet (fail)
       have U2:=U0.drewN' nq
       have c2':(w.drewN nq).cell? ⟨p,2,none⟩=_:=c2
       have d0':(w.drewN nq).cell? ⟨b,n*4,none⟩=_:=d0
       have d1':(w.drewN nq).cell? ⟨b,n*4+1,none⟩=_:=d1
       have VI:(w.drewN nq).cell? ⟨b,n*4+2,none⟩=_:=d2
       have VJ:(w.drewN nq).cell? ⟨b,n*4+3,none⟩=_:=d3
       have MK:b≠(w.drewN nq).heap.size:=hbne
       have ML:p≠(w.drewN nq).heap.size:=uG
       clear c0 c1 c2 d0 d1 d2 d3 hbne uG hbl hpl U0 hi
       generalize w.drewN nq=W2 at*
       go_wp2
       go_quiet (fail)
       go_wp2
       go_ret3
       exact⟨rfl,(U2.skip' _).drewN' _⟩
     ·have g2':(g.kind==2)=false:=by simpa using g2
      have z':(r % g.size==0)=false:=by simpa using z
      rw[HE2.out]
      have HV:Hid ((jq g r).map (fun k=>(n,k))=none):=Lib.hid (by rw[jq,if_neg (by omega),if_neg (by omega)];rfl)
      rw[HV.out]
      clear HE2 k1 k2
      go_enter Tryz.func86,Tryz.ntmps86
      go_wp2
      go_quiet (fail)
      have U2:=U0.drewN' nq
      have c2':(w.drewN nq).cell? ⟨p,2,none⟩=_:=c2
      have d0':(w.drewN nq).cell? ⟨b,n*4,none⟩=_:=d0
      have d1':(w.drewN nq).cell? ⟨b,n*4+1,none⟩=_:=d1
      have VI:(w.drewN nq).cell? ⟨b,n*4+2,none⟩=_:=d2
      have VJ:(w.drewN nq).cell? ⟨b,n*4+3,none⟩=_:=d3
      have MK:b≠(w.drewN nq).heap.size:=hbne
      have ML:p≠(w.drewN nq).heap.size:=uG
      clear c0 c1 c2 d0 d1 d2 d3 hbne uG hbl hpl U0 hi
      generalize w.drewN nq=W2 at*
      go_wp2
      go_quiet (fail)
      go_wp2
      go_ret3
      exact⟨rfl,(U2.skip' _).drewN' _⟩
    ·have g2':(g.kind==2)=false:=by simpa using g2
     have g1':(g.kind==1)=false:=by simpa using g1
     rw[HE2.out]
     have HV:Hid ((jq g r).map (fun k=>(n,k))=none):=Lib.hid (by rw[jq,if_neg (by omega),if_neg (by omega)];rfl)
     rw[HV.out]
     clear HE2 k1 k2
     go_enter Tryz.func86,Tryz.ntmps86
     go_wp2
     go_quiet (fail)
     have U2:=U0.drewN' nq
     have c2':(w.drewN nq).cell? ⟨p,2,none⟩=_:=c2
     have d0':(w.drewN nq).cell? ⟨b,n*4,none⟩=_:=d0
     have d1':(w.drewN nq).cell? ⟨b,n*4+1,none⟩=_:=d1
     have VI:(w.drewN nq).cell? ⟨b,n*4+2,none⟩=_:=d2
     have VJ:(w.drewN nq).cell? ⟨b,n*4+3,none⟩=_:=d3
     have MK:b≠(w.drewN nq).heap.size:=hbne
     have ML:p≠(w.drewN nq).heap.size:=uG
     clear c0 c1 c2 d0 d1 d2 d3 hbne uG hbl hpl U0 hi
     generalize w.drewN nq=W2 at*
     go_wp2
     go_quiet (fail)
     go_wp2
     go_ret3
     exact⟨rfl,(U2.skip' _).drewN' _⟩
  ·have HV:Hid (s.at a=none):=Lib.hid (by rw[HE.out,List.getElem?_eq_none (by omega)])
   rw[HV.out]
   clear HE m
   go_enter Tryz.func86,Tryz.ntmps86
   go_wp2
   go_quiet (fail)
   go_wp2
   go_ret3
   exact⟨rfl,U0.drewN' _⟩
end Go.Proofs.YtibemcgdmembeaaGreat
namespace Go.Proofs.YtibemcgdmembeaaGreat
open Go.RowKit
theorem nN{P:Program}{w:World}{ops:Array Oper}{o:Oper}{a:Act}{K:Act->World->Prop}{Q:Exit->Act->World->Prop}{E:Prop}
  (hg:o.guard=none)(s x:Operand)(t:TypeId)(hop:o.op=Op.call {callee:=Callee.builtin Builtin.append,args:=#[s,x],argTypes:=#[t,t]})
  (e:TypeId)(size bytes:Nat)(z:Value)(h1:P.underlying t=some (.slice e))(hinfo:(P.info? e).map (fun i=>(i.zero,i.size,i.bytes))=some (some z,size,bytes))(h6:z.cells.size=size)(h7:0<size)
  (v:Value)(n:Nat)(xs:List Value)(hX:Hp)(hs:a.eval s=v)(HS:aK e size v n xs hX)(hin:In w hX)
  (ad:Addr)(m c:Nat)(news:List Value)(hx:a.eval x= .slice (some ad) m c)(hc: ∀j u,news[j]? =some u->w.cell? (ad.add j)=some u)(hn:news.length=m*size)(h1c: ∀u∈news,u.oneCell'=true)(hm:0<m∨v≠ .slice none 0 0)
  (b1:n+m<=maxLen)(b2:(n+m)*bytes<=140737488355328)
  (hK: ∀v' w' hX',aK e size v' (n+m) (xs++news) hX'->aj hX hX' w w'->K (a.put o.dst v') w'):
  if Region.wanted o (yielded ops a.tmps)=true then Oper.wp P o a w K Q else E:=by
 obtain⟨i,hi,hz0,hz1,hz2⟩:=info_parts hinfo
 obtain⟨hlen,HS⟩:=HS
 have hlen2:(xs++news).length=(n+m)*size:=by rw[List.length_append,hlen,hn,Nat.add_mul]
 rcases HS with⟨rfl,rfl,rfl⟩|⟨g,pre,post,cap,rfl,rfl,hnc,hcap,hcm⟩
 ·obtain rfl:xs=[]:=List.eq_nil_of_length_eq_zero (by simpa using hlen)
  have hm:0<m:=hm.resolve_right (by simp)
  refine step_append_grows hg s x t hop e i z size bytes h1 hi hz0 hz1 hz2 h6 h7 none 0 0 [] hs (fun _=>⟨rfl,rfl⟩) (by simp) (by intro _ h;cases h) ad m c news hx hn hc h1c (by omega) b1 b2 ?_
  intro v' w' hown hgrow
  obtain⟨hl,hown⟩:=hown
  rcases hown with⟨rfl,h0⟩|⟨g,cap,cur,rfl,hge,hgb,hnc,hcm,hsz,htk⟩
  ·omega
  ·refine hK _ _ [(g, .cells ([]++([]++news)++(cur.toList.drop ((0+m)*size))).toArray e (0,0))] ⟨hlen2, .inr ⟨g,[],cur.toList.drop ((0+m)*size),cap,rfl,rfl,hnc, ?_,hcm⟩⟩ ?_
   ·rw[hlen2]
    simp[hsz]
    have:m*size<=cap*size:=Nat.mul_le_mul_right _ (by omega)
    omega
   ·have pz:([]++([]++news)++(cur.toList.drop ((0+m)*size))).toArray=cur:=by
     have:cur.toList=news++cur.toList.drop ((0+m)*size):=by
      rw[List.nil_append]at htk
      conv=>lhs;rw[<-List.take_append_drop ((0+m)*size) cur.toList,htk]
     apply Array.toList_inj.1
     simpa using this.symm
    rw[pz]
    exact {au:=⟨by simp,by intro x hx;simp at hx;subst hx;exact hgb⟩,os:=hgrow.os,tape:=hgrow.tape,output:=hgrow.output,size:=hgrow.size,frame:=fun k hk _=>hgrow.block k hk (by simp),fresh:=fun k hk=>by simp at hk;subst hk;exact .inr hge}
 ·have hgb:=hin.head
  have hcells: ∀j u,xs[j]? =some u->w.cell? ((⟨g,pre.length,none⟩:Addr).add j)=some u:=by
   intro j u hj
   rw[Addr.add_lit]
   rw[cell_of hgb]
   have hj':j<xs.length:=(List.getElem?_eq_some_iff.1 hj).1
   have e:=(List.getElem?_eq_some_iff.1 hj).2
   simp[List.getElem?_append,hj',e]
  by_cases hr:n+m<=cap
  ·have hspare: ∀j,j<news.length->(w.cell? ⟨g,pre.length+n*size+j,none⟩).isSome=true/\w.frozen? ⟨g,pre.length+n*size+j,none⟩=false:=by
    intro j hj
    have:j<post.length:=by
     have:(n+m)*size<=cap*size:=Nat.mul_le_mul_right _ hr
     rw[Nat.add_mul]at this
     omega
    refine⟨?_,aO hgb _⟩
    rw[cell_of hgb,<-hlen]
    have e:pre.length+xs.length+j<(pre++xs++post).length:=by simp;omega
    simp only[List.getElem?_toArray]
    rw[List.getElem?_eq_getElem e]
    rfl
   refine step_append_room hg s x t hop e i size h1 hi hz1 g pre.length n cap hs ad m c news hx hn hc h1c hr hspare ?_
   have hle:(n+m)*size<=cap*size:=Nat.mul_le_mul_right _ hr
   rw[Nat.add_mul]at hle
   have hpl:news.length<=post.length:=by omega
   obtain⟨old,post',rfl,hol⟩: ∃old post',post=old++post'/\old.length=news.length:=⟨post.take news.length,post.drop news.length,(List.take_append_drop _ _).symm,by simp;omega⟩
   have hrow:=su g e (0,0) news (pre.length+n*size) _ w hgb (by simp;omega)
   rw[hrow]
   have es:((pre++xs++(old++post')).toArray.toList.take (pre.length+n*size)++news++(pre++xs++(old++post')).toArray.toList.drop (pre.length+n*size+news.length))=pre++(xs++news)++post':=by
    rw[<-hlen]
    simpa using Az pre xs old post' news hol
   rw[es]
   refine hK _ _ [(g, .cells (pre++(xs++news)++post').toArray e (0,0))] ⟨hlen2, .inr ⟨g,pre,post',cap,rfl,rfl,hr, ?_,hcm⟩⟩ ?_
   ·simp at hcap⊢;omega
   ·have hbk:=setRow_heap w g _ (pre++(xs++news)++post').toArray e (0,0) hgb
    exact {au:=⟨by simp,by intro x hx;simp only[List.mem_singleton]at hx;subst hx;exact hbk⟩,os:=rfl,tape:=rfl,output:=rfl,size:=by simp[World.setRow],frame:=fun k hk hne=>setRow_other w g k _ (by simpa using hne),fresh:=fun k hk=> .inl (by simpa using hk)}
  ·refine step_append_grows hg s x t hop e i z size bytes h1 hi hz0 hz1 hz2 h6 h7 (some ⟨g,pre.length,none⟩) n cap xs hs (by intro h;cases h) hlen (by intro b hb;cases hb;exact hcells) ad m c news hx hn hc h1c (by omega) b1 b2 ?_
   intro v' w' hown hgrow
   obtain⟨hl,hown⟩:=hown
   rcases hown with⟨rfl,h0⟩|⟨g2,cap2,cur,rfl,hge,Ut,OW,hcm2,hsz,htk⟩
   ·have:n<=cap:=hnc
    omega
   ·refine hK _ _ [(g2, .cells ([]++(xs++news)++(cur.toList.drop ((n+m)*size))).toArray e (0,0))] ⟨hlen2, .inr ⟨g2,[],cur.toList.drop ((n+m)*size),cap2,rfl,rfl,OW, ?_,hcm2⟩⟩ ?_
    ·rw[hlen2]
     simp[hsz]
     have:(n+m)*size<=cap2*size:=Nat.mul_le_mul_right _ OW
     omega
    ·have pz:([]++(xs++news)++(cur.toList.drop ((n+m)*size))).toArray=cur:=by
      have:cur.toList=xs++news++cur.toList.drop ((n+m)*size):=by
       conv=>lhs;rw[<-List.take_append_drop ((n+m)*size) cur.toList,htk]
      apply Array.toList_inj.1
      simpa using this.symm
     rw[pz]
     exact {au:=⟨by simp,by intro x hx;simp at hx;subst hx;exact Ut⟩,os:=hgrow.os,tape:=hgrow.tape,output:=hgrow.output,size:=hgrow.size,frame:=fun k hk _=>hgrow.block k hk (by simp),fresh:=fun k hk=>by simp at hk;subst hk;exact .inr hge}
end Go.Proofs.YtibemcgdmembeaaGreat
namespace Go.Proofs.YtibemcgdmembeaaGreat
open Go.RowKit
def aP.lS(s:aP)(g:bC):Int:=if g.kind=2 then dS s.words g.size*s.words else g.size
def aP.aH(s:aP)(a:Int):Option Int:=(s.at a).map fun x=>match s.pages[x.1]? with|some g=>s.lS g|none=>0
def UB(o:Option Int):Int:=match o with|some x=>x|none=>0
theorem V5{s:aP}{a:Int}{n k:Nat}(h:s.at a=some (n,k)):n<s.pages.length:=by
 unfold aP.at at h
 split at h
 ·cases h
 ·split at h
  ·cases h
  ·rename_i g hg
   cases hq:jq g ((a-s.base) % s.words)with
   |none=>rw[hq]at h;cases h
   |some j=>
    rw[hq]at h
    simp only[Option.map_some,Option.some.injEq,Prod.mk.injEq]at h
    rw[<-h.1]
    exact(List.getElem?_eq_some_iff.1 hg).1
theorem Gv(p:Nat)(s:aP)(a:Int)(w:World)(h:Hp)(hi:In w h)(hm:eF p s h)(ok:s.Ok)(ha:I64 a):
  Calls Tryz.prog 42 #[.pointer (some ⟨p,0,none⟩), .int .i64 a] w fun e w'=>e= .returned (.tuple #[.int .i64 (UB (s.aH a)), .bool (s.aH a).isSome])/\aj h h w w':=by
 have hat:=D5 p s a w h hi hm ok ha
 cases hq:s.at a with
 |none=>
  have HV:Hid (s.aH a=none):=Lib.hid (by simp[aP.aH,hq])
  rw[HV.out]
  rw[hq]at hat
  simp only[O9,O_,Option.isSome_none]at hat
  clear hq
  go_enter Tryz.func42,Tryz.ntmps42
  go_wp2_with(go_at_call 86;refine Calls.mono hat ?_;rintro e w1 ⟨rfl,u1⟩)
  go_ret2
  exact⟨rfl,u1⟩
 |some nk=>
  obtain⟨n,k⟩:=nk
  have hn:=V5 hq
  obtain⟨g,hg⟩: ∃g,s.pages[n]? =some g:=⟨_,List.getElem?_eq_getElem hn⟩
  have HV:Hid (s.aH a=some (s.lS g)):=Lib.hid (by simp[aP.aH,hq,hg])
  rw[HV.out]
  rw[hq]at hat
  simp only[O9,O_,Option.isSome_some]at hat
  obtain⟨k1,k2,k3⟩:=ok.2 n g hg
  obtain⟨b,rows,m⟩:=hm.rows
  obtain⟨a1,a2,a3,a4,a5⟩:=m.2.2.2
  obtain⟨v,hp,hrow,hok⟩:=m.row hg
  have HC:Hid (∀W,In W h->W.cell? ⟨p,1,none⟩=some (.int .i64 s.words)/\W.cell? ⟨p,2,none⟩=some (.slice (some ⟨b,0,none⟩) s.pages.length s.pages.length)/\W.cell? ⟨b,n*4,none⟩=some (.int .i64 g.kind)/\W.cell? ⟨b,n*4+1,none⟩=some (.int .i64 g.size)):=Lib.hid (by
   intro W hW
   obtain⟨c0,c1,c2⟩:=m.cells hW
   obtain⟨d0,d1,_⟩:=m.page hW hrow
   exact⟨c1,c2,d0,d1⟩)
  have w16:=ok.1
  clear hq hg m hrow hok hm ok
  by_cases g2:g.kind=2
  ·obtain⟨z1,z2⟩:=k2 g2
   have Af:=fun W=>qh s.words g.size W z1 z2 w16 (by omega)
   obtain⟨y1,y2,_⟩:=fU z1 z2 w16
   have hcs:s.lS g=dS s.words g.size*s.words:=by rw[aP.lS,if_pos g2]
   rw[hcs]
   clear hcs HV
   generalize hP:dS s.words g.size=P at*
   clear hP
   have p0:0<=P*s.words:=Int.mul_nonneg (by omega) (by omega)
   have p1:P*s.words<=6*256:=Int.mul_le_mul (by omega) (by omega) (by omega) (by omega)
   generalize hA:P*s.words=A at*
   have wA:IntKind.i64.wrap A=A:=IntWalk.i64_in _ (by omega)
   have HPG:=Lib.hid Af
   clear Af
   go_enter Tryz.func42,Tryz.ntmps42
   go_wp2_with(go_at_call 86;refine Calls.mono hat ?_;rintro e w1 ⟨rfl,u1⟩;obtain⟨c1,c2,d0,d1⟩:=HC.out _ u1.au;rw[g2]at d0;have U1:=Lib.hid u1;clear u1 hat)
   go_quiet ((go_at_call 87;exact Calls.quiet_of (HPG.out _)))
   go_wp2
   go_ret2
   exact⟨rfl,U1.out.drewN' nq⟩
  ·have hcs:s.lS g=g.size:=by rw[aP.lS,if_neg g2]
   rw[hcs]
   have q2:(g.kind==2)=false:=by simpa using g2
   clear hcs HV
   go_enter Tryz.func42,Tryz.ntmps42
   go_wp2_with(go_at_call 86;refine Calls.mono hat ?_;rintro e w1 ⟨rfl,u1⟩;obtain⟨c1,c2,d0,d1⟩:=HC.out _ u1.au;have U1:=Lib.hid u1;clear u1 hat)
   go_ret2
   exact⟨rfl,U1.out⟩
theorem vV(p:Nat)(s:aP)(n:Nat)(w:World)(h:Hp)(hi:In w h)(hm:eF p s h)(hn:n<=64):
  Calls Tryz.prog 183 #[.pointer (some ⟨p,0,none⟩), .int .i64 n] w fun e w'=>e= .returned (.int .i64 (s.begin n))/\ ∃k,w'=w.drewN k:=by
 obtain⟨b,rows,m⟩:=hm.rows
 obtain⟨c0,c1,c2⟩:=m.cells hi
 obtain⟨_,_,_,a1,a2,a3,a4,a5⟩:=m
 have k0:0<=(n:Int)*s.words:=Int.mul_nonneg (by omega) (by omega)
 have k1:(n:Int)*s.words<=64*256:=Int.mul_le_mul (by omega) (by omega) (by omega) (by omega)
 have m1:IntKind.i64.wrap ((n:Int)*s.words)=(n:Int)*s.words:=IntWalk.i64_in _ (by omega)
 have hb:s.begin n=s.base+(n:Int)*s.words:=rfl
 rw[hb]
 clear hb
 generalize hA:(n:Int)*s.words=A at*
 have m2:IntKind.i64.wrap (s.base+A)=s.base+A:=IntWalk.i64_in _ (by omega)
 go_enter Tryz.func183,Tryz.ntmps183
 go_wp2
 go_quiet (fail)
 go_wp2
 go_ret
 exact⟨rfl,_,rfl⟩
def fA(b size:Int):List Bool->Nat->List Int
 |[],_=>[]
 |u::l,k=>if u=true then(b+(k:Int)*size)::fA b size l (k+1)else fA b size l (k+1)
def aP.iE(s:aP)(n:Nat)(g:bC):List Int:=if g.kind=2 then[s.begin n]else fA (s.begin n) g.size g.used 0
theorem ET(b size:Int)(l:List Bool)(j k:Nat)(h:k<l.length):fA b size (l.take (k+1)) j=fA b size (l.take k) j++(if l.getD k false=true then[b+((j+k:Nat):Int)*size]else[]):=by
 induction l generalizing j k with
 |nil=>simp at h
 |cons u l ih=>
  cases k with
  |zero=>cases u<;>simp[fA,List.getD]
  |succ k=>
   have:=ih (j+1) k (by simpa using h)
   have e:j+1+k=j+(k+1):=by omega
   rw[e]at this
   simp only[List.take_succ_cons,fA,List.getD,List.getElem?_cons_succ]at this⊢
   split
   ·rw[this];rfl
   ·exact this
theorem qi(b size:Int): ∀(l:List Bool) (k:Nat),(fA b size l k).length<=l.length
 |[],_=>by simp[fA]
 |u::l,k=>by
  have:=qi b size l (k+1)
  simp only[fA]
  split<;>simp<;>omega
theorem Dk(p:Nat)(s:aP)(n:Nat)(g:bC)(w:World)(h:Hp)(hi:In w h)(hm:eF p s h)(ok:s.Ok)(hg:s.pages[n]? =some g):
  Calls Tryz.prog 155 #[.pointer (some ⟨p,0,none⟩), .int .i64 n] w fun e w'=> ∃v h',e= .returned v/\aK 3 1 v (s.iE n g).length (ints (s.iE n g)) h'/\aj h (h'++h) w w':=by
 obtain⟨b,rows,m⟩:=hm.rows
 obtain⟨a1,a2,a3,a4,a5⟩:=m.2.2.2
 have hn:n<s.pages.length:=(List.getElem?_eq_some_iff.1 hg).1
 obtain⟨k1,k2,k3,k4⟩:=ok.2 n g hg
 obtain⟨v,hp,hrow,hok⟩:=m.row hg
 obtain⟨c0,c1,c2⟩:=m.cells hi
 obtain⟨d0,d1,d2,d3⟩:=m.page hi hrow
 simp only at d0 d1 d2 d3
 have sG:=m.part hi hrow
 have hS:=hok.1
 simp only at hS sG
 obtain⟨ao,cap,rfl,hcap⟩:=hS.shape
 have HC:Hid (∀W k,In W h->k<g.used.length-> ∃gb off,ao=some ⟨gb,off,none⟩/\W.cell? ⟨gb,off+k,none⟩=some (.bool (g.used.getD k false))):=Lib.hid (by
  intro W k hW hk
  obtain⟨gb,off,cap',hv,_⟩:=hS.addr (by omega)
  have hc:=hS.cell (m.part hW hrow) hv (j:=k) (by simpa using hk)
  simp only[Value.slice.injEq]at hv
  refine⟨gb,off,hv.1, ?_⟩
  rw[hc]
  simp[List.getD,hk])
 have HB:=Lib.hid (fun W (hW:In W h)=>pF p s n W h hW hm (by omega))
 have U0:=aj.refl hi
 have hbl:b<w.heap.size:=World.block_lt_of_cell? _ _ d0
 have hbne:b≠w.heap.size:=by omega
 have hb0:0<=s.begin n/\s.begin n<=1048576+64*256:=by
  unfold aP.begin
  have:0<=(n:Int)*s.words:=Int.mul_nonneg (by omega) (by omega)
  have:(n:Int)*s.words<=64*256:=Int.mul_le_mul (by omega) (by omega) (by omega) (by omega)
  omega
 obtain⟨hb0,hb1⟩:=hb0
 by_cases g2:g.kind=2
 ·have HV:Hid (s.iE n g=[s.begin n]):=Lib.hid (by rw[aP.iE,if_pos g2])
  rw[HV.out]
  rw[g2]at d0
  have hS2:=fun z=>aK.made (T:=3) (g:=z) (xs:=[Value.int .i64 (s.begin n)]) (n:=1) rfl (by unfold maxLen;omega)
  have HS2:=Lib.hid hS2
  have U1:=Lib.hid (U0.skip' (.cells #[.int .i64 g.kind, .int .i64 g.size, .slice ao g.used.length cap, .bool g.pending] 109 (0,0)))
  rw[g2]at U1
  clear hS2 U0 HV m hg hrow hok hS sG k1 k2 k4
  generalize s.begin n=B at*
  go_enter Tryz.func155,Tryz.ntmps155
  go_wp2_with(go_at_call 183;refine Calls.mono (HB.out _ U1.out.au) ?_;rintro e w8 ⟨rfl,u8⟩;have U8:=Lib.hid (U1.out.trans u8);clear u8)
  go_ret
  exact⟨_,_,rfl,HS2.out _,U8.out.alloc' _⟩
 ·have HV:Hid (s.iE n g=fA (s.begin n) g.size g.used 0):=Lib.hid (by rw[aP.iE,if_neg g2])
  rw[HV.out]
  have q2:(g.kind==2)=false:=by simpa using g2
  have hsz:0<g.used.length->4<=g.size/\g.size<=96:=by
   intro hu
   by_cases g1:g.kind=1
   ·exact k1 g1
   ·rw[k4 g1]at hu
    simp at hu
  have UL:=(U0.skip' (.cells #[.int .i64 g.kind, .int .i64 g.size, .slice ao g.used.length cap, .bool g.pending] 109 (0,0)))
  have UA:=aj.alloc hi (.cells #[.int .i64 g.kind, .int .i64 g.size, .slice ao g.used.length cap, .bool g.pending] 109 (0,0))
  have hlen:=qi (s.begin n) g.size g.used 0
  have HT:=Lib.hid (fun k (hk:k<g.used.length)=>ET (s.begin n) g.size g.used 0 k hk)
  have HLt:=Lib.hid (fun k=>qi (s.begin n) g.size (g.used.take k) 0)
  have H0:Hid (∃hX,aK 3 1 (.slice none 0 0) (fA (s.begin n) g.size (g.used.take 0) 0).length (ints (fA (s.begin n) g.size (g.used.take 0) 0)) hX/\aj h (hX++((w.heap.size, .cells #[.int .i64 g.kind, .int .i64 g.size, .slice ao g.used.length cap, .bool g.pending] 109 (0,0))::h)) w (w.alloc (.cells #[.int .i64 g.kind, .int .i64 g.size, .slice ao g.used.length cap, .bool g.pending] 109 (0,0)))):=Lib.hid ⟨[],aK.nil _ _,UA⟩
  clear HV UL UA U0 m hg hrow hok hS sG k1 k2 k4 g2 ok hm hlen
  generalize hBn:s.begin n=B at*
  clear hBn
  go_enter Tryz.func155,Tryz.ntmps155
  go_wp2
  generalize hlb:w.heap.size=lb at*
  go_loopw [6,26] (fun v i wr=> ∃(k:Nat) (vv:Value),k<=g.used.length/\i= .int .i64 k/\vv=v/\Hid (∃hX,aK 3 1 vv (fA B g.size (g.used.take k) 0).length (ints (fA B g.size (g.used.take k) 0)) hX/\aj h (hX++((lb, .cells #[.int .i64 g.kind, .int .i64 g.size, .slice ao g.used.length cap, .bool g.pending] 109 (0,0))::h)) w wr)) (fun _ i _=>g.used.length-(intOf i).toNat)
  case atStart=>exact⟨0,_,by omega,rfl,rfl,H0⟩
  case round=>
   obtain⟨k,vv,hk,rfl,rfl,HW⟩:=hrel
   by_cases hlt:k<g.used.length
   ·obtain⟨hX,S,U⟩:=HW.out
    have hin:=U.au.right
    obtain⟨gb,off,rfl,hc⟩:=HC.out wr k hin.tail hlt
    obtain⟨z1,z2⟩:=hsz (by omega)
    have ht:=HT.out k hlt
    have hle:=HLt.out k
    have hle2:(g.used.take k).length<=k:=List.length_take_le _ _
    rw[Nat.zero_add]at ht
    cases hu:g.used.getD k false
    ·rw[hu]at hc ht
     have HN:Hid (∃hX,aK 3 1 vv (fA B g.size (g.used.take (k+1)) 0).length (ints (fA B g.size (g.used.take (k+1)) 0)) hX/\aj h (hX++((lb, .cells #[.int .i64 g.kind, .int .i64 g.size, .slice (some ⟨gb,off,none⟩) g.used.length cap, .bool g.pending] 109 (0,0))::h)) w wr):=Lib.hid (by
      rw[ht,if_neg (by decide),List.append_nil]
      exact⟨hX,S,U⟩)
     clear S U ht hu HW hin
     go_wp2
     go_roundw
     case rel=>exact⟨k+1,_,by omega,by go_num,rfl,HN⟩
     case measure=>simp[intOf];omega
    ·rw[hu,if_pos rfl]at ht
     rw[hu]at hc
     obtain⟨ao',cap',rfl,hcap'⟩:=S.shape
     have p0:0<=(k:Int)*g.size:=Int.mul_nonneg (by omega) (by omega)
     have p1:(k:Int)*g.size<=256*96:=Int.mul_le_mul (by omega) (by omega) (by omega) (by omega)
     have S2: ∀v' hX',aK 3 1 v' ((fA B g.size (g.used.take k) 0).length+1) (ints (fA B g.size (g.used.take k) 0)++[.int .i64 (B+(k:Int)*g.size)]) hX'->aK 3 1 v' (fA B g.size (g.used.take (k+1)) 0).length (ints (fA B g.size (g.used.take (k+1)) 0)) hX':=by
      intro v' hX' h1
      rw[ht]
      simpa[ints]using h1
     generalize hA:(k:Int)*g.size=A at*
     have wA:IntKind.i64.wrap A=A:=IntWalk.i64_in _ (by omega)
     have wBA:IntKind.i64.wrap (B+A)=B+A:=IntWalk.i64_in _ (by omega)
     have HS:=Lib.hid S
     have HS2:=Lib.hid S2
     have HU:=Lib.hid U
     have hlbl:lb<wr.heap.size:=(Array.getElem?_eq_some_iff.1 hin.head).1
     have hS0:wr.drew.cell? ⟨lb,1,none⟩=some (.int .i64 g.size):=cell_of hin.head 1
     generalize hm:(fA B g.size (g.used.take k) 0).length=m at*
     generalize hxs:ints (fA B g.size (g.used.take k) 0)=xs at*
     clear S S2 U ht hu HW hm hxs HT
     go_wp2
     go_region_held3 (fun w'=>w'.cell? ⟨lb,1,none⟩=some (.int .i64 g.size))
      (first|with_reducible exact hS0|with_reducible exact wO|with_reducible exact Dl|with_reducible exact MM|go_keep)
      (first
       | (go_at_call 183;refine Calls.mono (HB.out _ hin.tail.drew) ?_;rintro e w9 ⟨rfl,u9⟩;have U9:=aj.fM (k:=hX) HU.out.drew' ((aj.refl hin.drew).under u9);have wO:w9.cell? ⟨lb,1,none⟩=some (.int .i64 g.size):=cell_of U9.au.right.head 1;have Dl:=Ux (o:= .cells #[.int .i64 (B+A)] 3 (0,0)) wO;have HN:=Lib.hid (kF (news:=[.int .i64 (B+A)]) (w:=w9.alloc (.cells #[.int .i64 (B+A)] 3 (0,0))) (b:=w9.heap.size) (T:=3) (fr:=(0,0)) (aV rfl));have UX:=Lib.hid (U9.skip' (.cells #[.int .i64 (B+A)] 3 (0,0)));clear U9 u9)
       | (refine nN rfl (.tmp 32) (.tmp 41) 41 rfl 3 1 8 _ Tryz.underlying41 Tryz.kG rfl (by decide) (.slice ao' m cap') m xs hX (by rfl) HS.out UX.out.au.left ⟨w9.heap.size,0,none⟩ 1 1 [.int .i64 (B+A)] (by rfl) HN.out rfl (by intro u hu;simp at hu;subst hu;rfl) (Or.inl (by decide)) (by unfold maxLen;omega) (by omega) ?_;intro v' w3 hX' hS' qG;have S3:=Lib.hid (HS2.out _ _ hS');have U3:=Lib.hid (UX.out.trans (qG.beside UX.out.au));have MM:w3.cell? ⟨lb,1,none⟩=some (.int .i64 g.size):=cell_of U3.out.au.right.head 1;clear hS' qG))
     go_wp2
     go_roundw
     case rel=>exact⟨k+1,_,by omega,by go_num,rfl,Lib.hid ⟨hX',S3.out,U3.out⟩⟩
     case measure=>simp[intOf];omega
   ·obtain⟨hX,S,U⟩:=HW.out
    rw[List.take_of_length_le (by omega)]at S
    have HS:=Lib.hid S
    have HU:=Lib.hid U
    clear S U HW
    go_wp2
    go_ret
    exact⟨_,hX,rfl,HS.out,HU.out.forget (List.Sublist.append_left (List.sublist_cons_self _ _) hX)⟩
end Go.Proofs.YtibemcgdmembeaaGreat
namespace Go.Proofs.YtibemcgdmembeaaGreat
open Go.RowKit
def g_(lo hi a:Int):Bool:=decide (lo<=a)&&decide (a<hi)
def aP.pO(s:aP)(lo hi:Int)(n:Nat)(g:bC):List Int:=if s.begin n+s.words<=lo∨hi<=s.begin n then[]else(s.iE n g).filter (g_ lo hi)
def aP.l9(s:aP)(lo hi:Int)(n:Nat):List Int:=match s.pages[n]? with|some g=>s.pO lo hi n g|none=>[]
def aP.bJ(s:aP)(lo hi:Int):Nat->List Int
 |0=>[]
 |k+1=>s.bJ lo hi k++s.l9 lo hi k
def aP.starts(s:aP)(lo hi:Int):List Int:=s.bJ lo hi s.pages.length
theorem xK{s:aP}(ok:s.Ok){n:Nat}{g:bC}(hg:s.pages[n]? =some g):(s.iE n g).length<=256:=by
 unfold aP.iE
 split
 ·simp
 ·have:=qi (s.begin n) g.size g.used 0
  have:=(ok.2 n g hg).2.2.1
  omega
theorem EU{s:aP}(ok:s.Ok)(lo hi:Int){n:Nat}{g:bC}(hg:s.pages[n]? =some g):(s.pO lo hi n g).length<=256:=by
 unfold aP.pO
 split
 ·simp
 ·have:=xK ok hg
  have:=List.length_filter_le (g_ lo hi) (s.iE n g)
  omega
theorem jO{s:aP}(ok:s.Ok)(lo hi:Int): ∀k,(s.bJ lo hi k).length<=k*256
 |0=>by simp[aP.bJ]
 |k+1=>by
  have ih:=jO ok lo hi k
  simp only[aP.bJ,List.length_append]
  have:(s.l9 lo hi k).length<=256:=by
   unfold aP.l9
   split
   ·rename_i g hg
    exact EU ok lo hi hg
   ·simp
  omega
theorem Gw{α:Type}(f:α->Bool)(l:List α)(d:α)(j:Nat)(h:j<l.length):(l.take (j+1)).filter f=(l.take j).filter f++(if f (l.getD j d)=true then[l.getD j d]else[]):=by
 rw[List.take_succ_eq_append_getElem h,List.filter_append]
 have e:l.getD j d=l[j]:=by simp[List.getD,h]
 rw[e]
 by_cases hf:f l[j]=true<;>simp[hf]
theorem Dn(p:Nat)(s:aP)(lo hi:Int)(w:World)(h:Hp)(hw:In w h)(hm:eF p s h)(ok:s.Ok):
  Calls Tryz.prog 167 #[.pointer (some ⟨p,0,none⟩), .int .i64 lo, .int .i64 hi] w fun e w'=> ∃v h',e= .returned v/\aK 3 1 v (s.starts lo hi).length (ints (s.starts lo hi)) h'/\aj h (h'++h) w w':=by
 obtain⟨b,rows,m⟩:=hm.rows
 obtain⟨a1,a2,a3,a4,a5⟩:=m.2.2.2
 obtain⟨c0,c1,c2⟩:=m.cells hw
 have HC:Hid (∀W,In W h->W.cell? ⟨p,1,none⟩=some (.int .i64 s.words)):=Lib.hid fun W hW=>(m.cells hW).2.1
 have HBQ:=Lib.hid (fun W n (hW:In W h) (hn:n<=64)=>vV p s n W h hW hm hn)
 have HST:=Lib.hid (fun W n g (hW:In W h) (hg:s.pages[n]? =some g)=>Dk p s n g W h hW hm ok hg)
 have HLn:=Lib.hid (fun k=>jO ok lo hi k)
 have HOn:=Lib.hid (fun n g (hg:s.pages[n]? =some g)=>xK ok hg)
 have HLS:Hid (∀k g,s.pages[k]? =some g->s.bJ lo hi (k+1)=s.bJ lo hi k++s.pO lo hi k g):=Lib.hid (by
  intro k g hg
  simp[aP.bJ,aP.l9,hg])
 have hres:s.starts lo hi=s.bJ lo hi s.pages.length:=rfl
 rw[hres]
 have H0:Hid (∃hX,aK 3 1 (.slice none 0 0) (s.bJ lo hi 0).length (ints (s.bJ lo hi 0)) hX/\aj h (hX++h) w w):=Lib.hid ⟨[],aK.nil _ _,aj.refl hw⟩
 clear hres m hm ok
 go_enter Tryz.func167,Tryz.ntmps167
 go_wp2
 go_loopw [7,18] (fun v i wr=> ∃(k:Nat) (vv:Value),k<=s.pages.length/\i= .int .i64 k/\vv=v/\Hid (∃hX,aK 3 1 vv (s.bJ lo hi k).length (ints (s.bJ lo hi k)) hX/\aj h (hX++h) w wr)) (fun _ i _=>s.pages.length-(intOf i).toNat)
 case atStart=>exact⟨0,_,by omega,rfl,rfl,H0⟩
 case round=>
  obtain⟨k,vv,hk,rfl,rfl,HW⟩:=hrel
  by_cases hlt:k<s.pages.length
  ·obtain⟨g,hg⟩: ∃g,s.pages[k]? =some g:=⟨_,List.getElem?_eq_getElem hlt⟩
   obtain⟨hX,S,U⟩:=HW.out
   have c1r:=HC.out wr U.au.right
   have HQ:=Lib.hid (fun n=>HBQ.out (wr.drewN n) k U.au.right (by omega))
   have hb0:0<=s.begin k/\s.begin k<=1048576+64*256:=by
    unfold aP.begin
    have:0<=(k:Int)*s.words:=Int.mul_nonneg (by omega) (by omega)
    have:(k:Int)*s.words<=64*256:=Int.mul_le_mul (by omega) (by omega) (by omega) (by omega)
    omega
   obtain⟨hb0,hb1⟩:=hb0
   have hls:=HLS.out k g hg
   have hin:s.pO lo hi k g=if s.begin k+s.words<=lo∨hi<=s.begin k then[]else(s.iE k g).filter (g_ lo hi):=rfl
   have XZ:=Lib.hid (HOn.out k g hg)
   have V6:=Lib.hid (HLn.out k)
   have V7:=Lib.hid (fun W (hW:In W h)=>HST.out W k g hW hg)
   have HU:=Lib.hid U
   have HS:=Lib.hid S
   have MN:=Lib.hid hls
   have Ru:=Lib.hid hin
   clear S U hls hin hg HW
   generalize hBk:s.begin k=B at*
   have wB:IntKind.i64.wrap (B+s.words)=B+s.words:=IntWalk.i64_in _ (by omega)
   by_cases q1:B+s.words<=lo
   ·have HN:Hid (∃hX,aK 3 1 vv (s.bJ lo hi (k+1)).length (ints (s.bJ lo hi (k+1))) hX/\aj h (hX++h) w wr):=Lib.hid (by
     rw[MN.out,Ru.out,if_pos (.inl q1),List.append_nil]
     exact⟨hX,HS.out,HU.out⟩)
    have X7:Hid (∀n,∃hX,aK 3 1 vv (s.bJ lo hi (k+1)).length (ints (s.bJ lo hi (k+1))) hX/\aj h (hX++h) w (wr.drewN n)):=Lib.hid (fun n=>by
     obtain⟨hX,S,U⟩:=HN.out
     exact⟨hX,S,U.drewN' n⟩)
    clear MN Ru V7 HS HU HN
    go_wp2
    go_quiet ((go_at_call 183;exact Calls.quiet_of (HQ.out _)))
    go_wp2
    go_roundw
    case rel=>exact⟨k+1,_,by omega,by go_num,rfl,Lib.hid (X7.out _)⟩
    case measure=>simp[intOf];omega
   ·by_cases q2:hi<=B
    ·have HN:Hid (∃hX,aK 3 1 vv (s.bJ lo hi (k+1)).length (ints (s.bJ lo hi (k+1))) hX/\aj h (hX++h) w wr):=Lib.hid (by
      rw[MN.out,Ru.out,if_pos (.inr q2),List.append_nil]
      exact⟨hX,HS.out,HU.out⟩)
     have X7:Hid (∀n,∃hX,aK 3 1 vv (s.bJ lo hi (k+1)).length (ints (s.bJ lo hi (k+1))) hX/\aj h (hX++h) w (wr.drewN n)):=Lib.hid (fun n=>by
      obtain⟨hX,S,U⟩:=HN.out
      exact⟨hX,S,U.drewN' n⟩)
     clear MN Ru V7 HS HU HN
     go_wp2
     go_quiet ((go_at_call 183;exact Calls.quiet_of (HQ.out _)))
     go_wp2
     go_roundw
     case rel=>exact⟨k+1,_,by omega,by go_num,rfl,Lib.hid (X7.out _)⟩
     case measure=>simp[intOf];omega
    ·have HT:Hid (s.bJ lo hi (k+1)=s.bJ lo hi k++(s.iE k g).filter (g_ lo hi)):=Lib.hid (by
      rw[MN.out,Ru.out,if_neg (by omega)])
     clear MN Ru
     generalize hl2:s.iE k g=l2 at*
     clear hl2
     go_wp2
     go_quiet ((go_at_call 183;exact Calls.quiet_of (HQ.out _)))
     have Gq:=Lib.hid (HU.out.drewN' nq)
     generalize wr.drewN nq=wq at*
     clear HQ
     go_wp2_with(go_at_call 155;refine Calls.mono (V7.out _ Gq.out.au.right) ?_;rintro e w2 ⟨v2,h2,rfl,s2,u2⟩;have V8:=Lib.hid (aj.fM Gq.out u2);obtain⟨VS,cap2,rfl,hcap2⟩:=s2.shape;have HS2:=Lib.hid s2;clear s2 u2)
     have HI0:Hid (∃hX,aK 3 1 vv (s.bJ lo hi k++(l2.take 0).filter (g_ lo hi)).length (ints (s.bJ lo hi k++(l2.take 0).filter (g_ lo hi))) hX/\aj h (hX++(h2++h)) w w2):=Lib.hid ⟨hX,by simpa using HS.out,V8.out⟩
     go_loopw [7,42] (fun v i wr=> ∃(j:Nat) (vv:Value),j<=l2.length/\i= .int .i64 j/\vv=v/\Hid (∃hX,aK 3 1 vv (s.bJ lo hi k++(l2.take j).filter (g_ lo hi)).length (ints (s.bJ lo hi k++(l2.take j).filter (g_ lo hi))) hX/\aj h (hX++(h2++h)) w wr)) (fun _ i _=>l2.length-(intOf i).toNat)
     case atStart=>exact⟨0,_,by omega,rfl,rfl,HI0⟩
     case round=>
      obtain⟨j,v3,hj,rfl,rfl,HJ⟩:=hrel
      by_cases hjl:j<l2.length
      ·obtain⟨hY,S3,U3⟩:=HJ.out
       obtain⟨gb,off,rfl,hcj⟩:=aK.nH (kd:= .i64) HS2.out U3.au.right.left hjl
       have hf:=Gw (g_ lo hi) l2 0 j hjl
       have hl3:=List.length_filter_le (g_ lo hi) (l2.take j)
       have hl4:(l2.take j).length<=j:=List.length_take_le _ _
       have hok:=XZ.out
       have hlk:=V6.out
       generalize l2.getD j 0=x at*
       by_cases p1:lo<=x
       ·by_cases p2:x<hi
        ·rw[if_pos (by simp[g_,p1,p2])]at hf
         obtain⟨ao',cap',rfl,hcap'⟩:=S3.shape
         have V9:Hid (∀v' hX',aK 3 1 v' ((s.bJ lo hi k++(l2.take j).filter (g_ lo hi)).length+1) (ints (s.bJ lo hi k++(l2.take j).filter (g_ lo hi))++[.int .i64 x]) hX'->aK 3 1 v' (s.bJ lo hi k++(l2.take (j+1)).filter (g_ lo hi)).length (ints (s.bJ lo hi k++(l2.take (j+1)).filter (g_ lo hi))) hX'):=Lib.hid (by
          intro v' hX' h1
          rw[hf,<-List.append_assoc]
          simpa[ints,Nat.add_assoc]using h1)
         have hml:(s.bJ lo hi k++(l2.take j).filter (g_ lo hi)).length<=32768:=by
          rw[List.length_append]
          omega
         have UX:=Lib.hid (U3.skip' (.cells #[.int .i64 x] 3 (0,0)))
         have HN:=Lib.hid (kF (news:=[.int .i64 x]) (w:=wr.alloc (.cells #[.int .i64 x] 3 (0,0))) (b:=wr.heap.size) (T:=3) (fr:=(0,0)) (aV rfl))
         have HS3:=Lib.hid S3
         generalize hm:(s.bJ lo hi k++(l2.take j).filter (g_ lo hi)).length=m at*
         generalize hxs:ints (s.bJ lo hi k++(l2.take j).filter (g_ lo hi))=xs at*
         clear S3 U3 HJ hf hl3 hl4 hlk hm hxs
         go_wp2_with(at_builtin;refine cO rfl (.tmp 54) (.tmp 56) 41 rfl 3 1 8 (.int .i64 0) Tryz.underlying41 Tryz.kG rfl (by decide) (.slice ao' m cap') m xs hY rfl HS3.out UX.out.au.left ⟨wr.heap.size,0,none⟩ 1 1 [.int .i64 x] rfl HN.out rfl (by intro u hu;simp at hu;subst hu;rfl) (Or.inl (by decide)) (by unfold maxLen;omega) (by omega) ?_;intro v' w5 hX' hS' qG;have S5:=Lib.hid (V9.out _ _ hS');have U5:=Lib.hid (UX.out.trans (qG.beside UX.out.au));clear hS' qG)
         go_roundw
         case rel=>exact⟨j+1,_,by omega,by go_num,rfl,Lib.hid ⟨hX',S5.out,U5.out⟩⟩
         case measure=>simp[intOf];omega
        ·rw[if_neg (by simp[g_,p2]),List.append_nil]at hf
         have HN:Hid (∃hX,aK 3 1 v3 (s.bJ lo hi k++(l2.take (j+1)).filter (g_ lo hi)).length (ints (s.bJ lo hi k++(l2.take (j+1)).filter (g_ lo hi))) hX/\aj h (hX++(h2++h)) w wr):=Lib.hid (by rw[hf];exact HJ.out)
         clear hf S3 U3 HJ hl3 hl4 hlk
         go_wp2
         go_roundw
         case rel=>exact⟨j+1,_,by omega,by go_num,rfl,HN⟩
         case measure=>simp[intOf];omega
       ·rw[if_neg (by simp[g_,p1]),List.append_nil]at hf
        have HN:Hid (∃hX,aK 3 1 v3 (s.bJ lo hi k++(l2.take (j+1)).filter (g_ lo hi)).length (ints (s.bJ lo hi k++(l2.take (j+1)).filter (g_ lo hi))) hX/\aj h (hX++(h2++h)) w wr):=Lib.hid (by rw[hf];exact HJ.out)
        clear hf S3 U3 HJ hl3 hl4 hlk
        go_wp2
        go_roundw
        case rel=>exact⟨j+1,_,by omega,by go_num,rfl,HN⟩
        case measure=>simp[intOf];omega
      ·obtain⟨hY,S3,U3⟩:=HJ.out
       rw[List.take_of_length_le (by omega),<-HT.out]at S3
       have HN:Hid (∃hX,aK 3 1 v3 (s.bJ lo hi (k+1)).length (ints (s.bJ lo hi (k+1))) hX/\aj h (hX++h) w wr):=Lib.hid ⟨hY,S3,U3.forget (List.Sublist.append_left (List.sublist_append_right _ _) hY)⟩
       clear S3 U3 HJ
       go_wp2
       go_roundw
       case rel=>exact⟨k+1,_,by omega,by go_num,rfl,HN⟩
       case measure=>simp[intOf];omega
  ·obtain⟨hX,S,U⟩:=HW.out
   rw[show k=s.pages.length by omega]at S
   have HS:=Lib.hid S
   have HU:=Lib.hid U
   clear S U HW
   go_wp2
   go_ret
   exact⟨_,hX,rfl,HS.out,HU.out⟩
end Go.Proofs.YtibemcgdmembeaaGreat
namespace Go.Proofs.YtibemcgdmembeaaGreat
open Go.RowKit
def aP.Zo(s:aP)(a:Int):Int:=UB (s.aH a)
def lY:List Int->Int
 |[]=>0
 |x::l=>x+lY l
theorem zl(a b:List Int):lY (a++b)=lY a+lY b:=by
 induction a with
 |nil=>simp[lY]
 |cons x l ih=>simp[lY,ih];omega
def aP.ZE(s:aP)(n:Nat):Int:=match s.pages[n]? with|some g=>lY ((s.iE n g).map s.Zo)|none=>0
def aP.Zw(s:aP):Nat->Int
 |0=>0
 |k+1=>s.Zw k+s.ZE k
def aP.used(s:aP):Int:=s.Zw s.pages.length
theorem aau{s:aP}(ok:s.Ok)(hw:s.words<=256){n:Nat}{g:bC}(hg:s.pages[n]? =some g)(h:g.kind=1∨g.kind=2):0<=s.lS g/\s.lS g<=1536:=by
 obtain⟨k1,k2,k3,k4⟩:=ok.2 n g hg
 have w16:=ok.1
 unfold aP.lS
 split
 ·rename_i g2
  obtain⟨z1,z2⟩:=k2 g2
  obtain⟨y1,y2,_⟩:=fU z1 z2 w16
  have p0:0<=dS s.words g.size*s.words:=Int.mul_nonneg (by omega) (by omega)
  have p1:dS s.words g.size*s.words<=6*256:=Int.mul_le_mul (by omega) (by omega) (by omega) (by omega)
  omega
 ·rename_i g2
  rcases h with h|h
  ·have:=k1 h
   omega
  ·omega
theorem ZW{s:aP}(ok:s.Ok)(hw:s.words<=256)(a:Int):0<=s.Zo a/\s.Zo a<=1536:=by
 unfold aP.Zo aP.aH
 cases hq:s.at a with
 |none=>simp[UB]
 |some nk=>
  obtain⟨n,k⟩:=nk
  obtain⟨g,hg⟩: ∃g,s.pages[n]? =some g:=⟨_,List.getElem?_eq_getElem (V5 hq)⟩
  simp only[Option.map_some,hg,UB]
  refine aau ok hw hg ?_
  unfold aP.at at hq
  split at hq
  ·cases hq
  ·split at hq
   ·cases hq
   ·rename_i g' hg'
    cases hc:jq g' ((a-s.base) % s.words)with
    |none=>rw[hc]at hq;cases hq
    |some j=>
     rw[hc]at hq
     simp only[Option.map_some,Option.some.injEq,Prod.mk.injEq]at hq
     rw[hq.1]at hg'
     rw[hg]at hg'
     cases hg'
     unfold jq at hc
     split at hc
     ·rename_i h1;exact .inr h1.1
     ·split at hc
      ·rename_i h1;exact .inl h1.1
      ·cases hc
theorem ZM(f:Int->Int)(h: ∀a,0<=f a/\f a<=1536): ∀l:List Int,0<=lY (l.map f)/\lY (l.map f)<=l.length*1536
 |[]=>by simp[lY]
 |x::l=>by
  have:=ZM f h l
  have:=h x
  simp only[List.map_cons,lY,List.length_cons]
  omega
theorem Z_{s:aP}(ok:s.Ok)(hw:s.words<=256): ∀k:Nat,0<=s.Zw k/\s.Zw k<=k*393216
 |0=>by simp[aP.Zw]
 |k+1=>by
  have ih:=Z_ ok hw k
  have hp:0<=s.ZE k/\s.ZE k<=393216:=by
   unfold aP.ZE
   split
   ·rename_i g hg
    have:=ZM s.Zo (ZW ok hw) (s.iE k g)
    have:=xK ok hg
    omega
   ·omega
  simp only[aP.Zw]
  omega
theorem aam{b size:Int}: ∀{l:List Bool} {j:Nat} {a:Int},a∈fA b size l j-> ∃k:Nat,j<=k/\k<j+l.length/\a=b+(k:Int)*size
 |[],_,_,h=>by simp[fA]at h
 |u::l,j,a,h=>by
  simp only[fA]at h
  have key:a∈fA b size l (j+1)-> ∃k:Nat,j<=k/\k<j+(u::l).length/\a=b+(k:Int)*size:=fun h=>by
   obtain⟨k,h1,h2,h3⟩:=aam h
   exact⟨k,by omega,by simp;omega,h3⟩
  split at h
  ·rcases List.mem_cons.1 h with rfl|h
   ·exact⟨j,by omega,by simp,rfl⟩
   ·exact key h
  ·exact key h
theorem aav{s:aP}(wf:s.WF)(ok:s.Ok){n:Nat}{g:bC}(hg:s.pages[n]? =some g){a:Int}(ha:a∈s.iE n g):0<=a/\a<=2097152:=by
 obtain⟨a1,a2,a3,a4,a5⟩:=wf
 have hn:n<s.pages.length:=(List.getElem?_eq_some_iff.1 hg).1
 obtain⟨k1,k2,k3,k4⟩:=ok.2 n g hg
 have hb0:0<=s.begin n/\s.begin n<=1048576+64*256:=by
  unfold aP.begin
  have:0<=(n:Int)*s.words:=Int.mul_nonneg (by omega) (by omega)
  have:(n:Int)*s.words<=64*256:=Int.mul_le_mul (by omega) (by omega) (by omega) (by omega)
  omega
 unfold aP.iE at ha
 split at ha
 ·simp at ha
  omega
 ·obtain⟨k,h1,h2,rfl⟩:=aam ha
  have hz:4<=g.size/\g.size<=96:=by
   by_cases g1:g.kind=1
   ·exact k1 g1
   ·rw[k4 g1]at h2
    simp at h2
  have:0<=(k:Int)*g.size:=Int.mul_nonneg (by omega) (by omega)
  have:(k:Int)*g.size<=256*96:=Int.mul_le_mul (by omega) (by omega) (by omega) (by omega)
  omega
theorem abo(p:Nat)(s:aP)(w:World)(h:Hp)(hw:In w h)(hm:eF p s h)(ok:s.Ok):
  Calls Tryz.prog 122 #[.pointer (some ⟨p,0,none⟩)] w fun e w'=>e= .returned (.int .i64 s.used)/\aj h h w w':=by
 obtain⟨b,rows,m⟩:=hm.rows
 have hwf:=m.2.2.2
 obtain⟨a1,a2,a3,a4,a5⟩:=hwf
 obtain⟨c0,c1,c2⟩:=m.cells hw
 have HST:=Lib.hid (fun W n g (hW:In W h) (hg:s.pages[n]? =some g)=>Dk p s n g W h hW hm ok hg)
 have XD:=Lib.hid (fun W a (hW:In W h) (ha:I64 a)=>Gv p s a W h hW hm ok ha)
 have HUB:=Lib.hid (fun k=>Z_ ok a4 k)
 have HSB:=Lib.hid (fun l=>ZM s.Zo (ZW ok a4) l)
 have HOn:=Lib.hid (fun n g (hg:s.pages[n]? =some g)=>xK ok hg)
 have HOb:=Lib.hid (fun n g (hg:s.pages[n]? =some g) a (ha:a∈s.iE n g)=>aav m.2.2.2 ok hg ha)
 have HSE:Hid (∀a,s.Zo a=UB (s.aH a)):=Lib.hid fun _=>rfl
 have HLS:Hid (∀k g,s.pages[k]? =some g->s.Zw (k+1)=s.Zw k+lY ((s.iE k g).map s.Zo)):=Lib.hid (by
  intro k g hg
  simp[aP.Zw,aP.ZE,hg])
 have hres:s.used=s.Zw s.pages.length:=rfl
 rw[hres]
 have H0:Hid (aj h h w w):=Lib.hid (aj.refl hw)
 clear hres m hm ok
 go_enter Tryz.func122,Tryz.ntmps122
 go_wp2
 go_loopw [3,16] (fun v i wr=> ∃k:Nat,k<=s.pages.length/\i= .int .i64 k/\v= .int .i64 (s.Zw k)/\Hid (aj h h w wr)) (fun _ i _=>s.pages.length-(intOf i).toNat)
 case atStart=>exact⟨0,by omega,rfl,rfl,H0⟩
 case round=>
  obtain⟨k,hk,rfl,rfl,HW⟩:=hrel
  obtain⟨ub0,ub1⟩:=HUB.out k
  by_cases hlt:k<s.pages.length
  ·obtain⟨g,hg⟩: ∃g,s.pages[k]? =some g:=⟨_,List.getElem?_eq_getElem hlt⟩
   have HT:=Lib.hid (HLS.out k g hg)
   have hl256:=HOn.out k g hg
   have XZ:=Lib.hid (HOb.out k g hg)
   have V7:=Lib.hid (fun W (hW:In W h)=>HST.out W k g hW hg)
   clear hg
   generalize hl2:s.iE k g=l2 at*
   generalize hUk:s.Zw k=ady at*
   clear hl2 hUk
   go_wp2_with(go_at_call 155;refine Calls.mono (V7.out _ HW.out.au) ?_;rintro e w2 ⟨v2,h2,rfl,s2,u2⟩;have V8:=Lib.hid (HW.out.trans u2);obtain⟨VS,cap2,rfl,hcap2⟩:=s2.shape;have HS2:=Lib.hid s2;clear s2 u2)
   go_loopw [3,23] (fun v i wr=> ∃j:Nat,j<=l2.length/\i= .int .i64 j/\v= .int .i64 (ady+lY ((l2.take j).map s.Zo))/\Hid (aj h (h2++h) w wr)) (fun _ i _=>l2.length-(intOf i).toNat)
   case atStart=>exact⟨0,by omega,rfl,by simp[lY],V8⟩
   case round=>
    obtain⟨j,hj,rfl,rfl,HJ⟩:=hrel
    obtain⟨sb0,sb1⟩:=HSB.out (l2.take j)
    have hl4:(l2.take j).length<=j:=List.length_take_le _ _
    by_cases hjl:j<l2.length
    ·obtain⟨gb,off,rfl,hcj⟩:=aK.nH (kd:= .i64) HS2.out HJ.out.au.left hjl
     have hmem:l2.getD j 0∈l2:=by simp[List.getD,hjl]
     obtain⟨o1,o2⟩:=XZ.out _ hmem
     obtain⟨t0,t1⟩:=HSB.out [l2.getD j 0]
     simp only[List.map_cons,List.map_nil,lY,List.length_cons,List.length_nil]at t0 t1
     have HN:Hid (lY ((l2.take (j+1)).map s.Zo)=lY ((l2.take j).map s.Zo)+s.Zo (l2.getD j 0)):=Lib.hid (by
      rw[List.take_succ_eq_append_getElem hjl,List.map_append,zl]
      simp[lY,List.getD,hjl])
     have hsz:=XD.out wr (l2.getD j 0) HJ.out.au.right ⟨by omega,by omega⟩
     rw[<-HSE.out]at hsz
     clear hmem
     generalize l2.getD j 0=x at*
     generalize hSx:s.Zo x=Sx at*
     generalize hSm:lY ((l2.take j).map s.Zo)=adz at*
     clear hSx hSm
     go_wp2_with(go_at_call 42;refine Calls.mono hsz ?_;rintro e w5 ⟨rfl,u5⟩;have MZ:=Lib.hid (aj.fM HJ.out u5);clear u5 hsz)
     go_roundw
     case rel=>exact⟨j+1,by omega,by go_num,by rw[HN.out];go_num,MZ⟩
     case measure=>simp[intOf];omega
    ·have HV:Hid (ady+lY ((l2.take j).map s.Zo)=s.Zw (k+1)):=Lib.hid (by rw[HT.out,List.take_of_length_le (by omega)])
     have HN:Hid (aj h h w wr):=Lib.hid (HJ.out.forget (List.sublist_append_right _ _))
     generalize lY ((l2.take j).map s.Zo)=adz at*
     clear HJ
     go_wp2
     go_roundw
     case rel=>exact⟨k+1,by omega,by go_num,by rw[<-HV.out],HN⟩
     case measure=>simp[intOf];omega
  ·obtain rfl:k=s.pages.length:=by omega
   go_wp2
   go_ret
   exact⟨rfl,HW.out⟩
end Go.Proofs.YtibemcgdmembeaaGreat
namespace Go.Proofs.YtibemcgdmembeaaGreat
open Go.RowKit
structure aP.V(s:aP):Prop where
 w16:16<=s.words
 AU:s.words<=256
 b0:1<=s.base
 blk: ∀(n:Nat) (g:bC),s.pages[n]? =some g->g.kind=1->4<=g.size/\g.size<=96/\g.size<=s.words/\ (g.used.length:Int)=s.words/g.size
 big: ∀(n:Nat) (g:bC),s.pages[n]? =some g->g.kind=2->1<=g.size/\g.size<=66/\ ((n:Int)+dS s.words g.size<=s.pages.length)/\ ∀k:Nat,1<=k->(k:Int)<dS s.words g.size-> ∃g',s.pages[n+k]? =some g'/\g'.kind=3
 az: ∀(n:Nat) (g:bC),s.pages[n]? =some g->g.kind≠1->g.used=[]
theorem aP.V.ok{s:aP}(v:s.V):s.Ok:=by
 refine⟨v.w16,fun n g hg=>⟨fun h=> ?_,fun h=> ?_, ?_,v.az n g hg⟩⟩
 ·have:=v.blk n g hg h
  exact⟨this.1,this.2.1⟩
 ·exact⟨(v.big n g hg h).1,(v.big n g hg h).2.1⟩
 ·by_cases h:g.kind=1
  ·have h1:=v.blk n g hg h
   have h2:=v.AU
   have:s.words/g.size<=s.words:=Int.ediv_le_self _ (by have:=v.w16;omega)
   omega
  ·rw[v.az n g hg h]
   simp
theorem qj{w z:Int}(hz:0<z)(hw:0<=w){k:Nat}(hk:(k:Int)<w/z):0<=(k:Int)*z/\ (k:Int)*z+z<=w:=by
 refine⟨Int.mul_nonneg (by omega) (by omega), ?_⟩
 have h1:(k:Int)+1<=w/z:=by omega
 have h2:((k:Int)+1)*z<=(w/z)*z:=Int.mul_le_mul_of_nonneg_right h1 (by omega)
 have h3:=Int.ediv_mul_le w (b:=z) (by omega)
 rw[Int.add_mul]at h2
 omega
theorem UC{w:Int}(hw:0<w)(n:Nat){off:Int}(h0:0<=off)(h1:off<w):((n:Int)*w+off)/w=n/\ ((n:Int)*w+off) % w=off:=by
 have e1:(n:Int)*w+off=off+n*w:=by omega
 rw[e1]
 refine⟨?_, ?_⟩
 ·rw[Int.add_mul_ediv_right _ _ (by omega),Int.ediv_eq_zero_of_lt h0 h1]
  omega
 ·rw[Int.add_mul_emod_self_right,Int.emod_eq_of_lt h0 h1]
theorem sH{s:aP}(v:s.V){a:Int}{n k:Nat}:
  s.at a=some (n,k)↔ ∃g,s.pages[n]? =some g/\ ((g.kind=2/\k=0/\a=s.begin n)∨(g.kind=1/\g.used[k]? =some true/\a=s.begin n+(k:Int)*g.size)):=by
 have w16:=v.w16
 constructor
 ·intro h
  unfold aP.at at h
  split at h
  ·cases h
  ·rename_i hlt
   split at h
   ·cases h
   ·rename_i g hg
    obtain⟨j,hj,hjk⟩:=Option.map_eq_some_iff.1 h
    simp only[Prod.mk.injEq]at hjk
    obtain⟨hn,rfl⟩:=hjk
    have hd0:0<=a-s.base:=by omega
    have e1:s.words*((a-s.base)/s.words)+(a-s.base) % s.words=a-s.base:=Int.mul_ediv_add_emod _ _
    have e2:0<=(a-s.base)/s.words:=Int.ediv_nonneg hd0 (by omega)
    have e3:((n:Nat):Int)=(a-s.base)/s.words:=by omega
    have eb:s.begin n=s.base+s.words*((a-s.base)/s.words):=by
     unfold aP.begin
     rw[e3,Int.mul_comm]
    have m0:0<=(a-s.base) % s.words:=Int.emod_nonneg _ (by omega)
    rw[hn]at hg
    refine⟨g,hg, ?_⟩
    unfold jq at hj
    split at hj
    ·rename_i h2
     cases hj
     exact .inl ⟨h2.1,rfl,by omega⟩
    ·split at hj
     ·rename_i h2
      split at hj
      ·rename_i h3
       split at hj
       ·rename_i h4
        cases hj
        refine .inr ⟨h2.1, ?_, ?_⟩
        ·simpa[List.getD,h3]using h4
        ·obtain⟨z1,z2,z3,z4⟩:=v.blk n g hg h2.1
         have q0:0<=((a-s.base) % s.words)/g.size:=Int.ediv_nonneg m0 (by omega)
         have q1:g.size*(((a-s.base) % s.words)/g.size)+((a-s.base) % s.words) % g.size=(a-s.base) % s.words:=Int.mul_ediv_add_emod _ _
         have q2:(((((a-s.base) % s.words)/g.size).toNat:Nat):Int)=((a-s.base) % s.words)/g.size:=by omega
         rw[q2,Int.mul_comm]
         omega
       ·cases hj
      ·cases hj
     ·cases hj
 ·rintro⟨g,hg,h⟩
  have key: ∀off:Int,0<=off->off<s.words->a=s.begin n+off-> ¬a<s.base/\ ((a-s.base)/s.words).toNat=n/\ (a-s.base) % s.words=off:=by
   intro off h0 h1 ha
   have e:a-s.base=(n:Int)*s.words+off:=by rw[ha];unfold aP.begin;omega
   obtain⟨d1,d2⟩:=UC (by omega:0<s.words) n h0 h1
   refine⟨?_,by rw[e,d1];simp,by rw[e,d2]⟩
   have:0<=(n:Int)*s.words:=Int.mul_nonneg (by omega) (by omega)
   omega
  rcases h with⟨h1,rfl,ha⟩|⟨h1,h2,ha⟩
  ·obtain⟨k1,k2,k3⟩:=key 0 (by omega) (by omega) (by omega)
   unfold aP.at
   rw[if_neg k1,k2,k3,hg]
   simp[jq,h1]
  ·obtain⟨z1,z2,z3,z4⟩:=v.blk n g hg h1
   have hkl:k<g.used.length:=(List.getElem?_eq_some_iff.1 h2).1
   obtain⟨c1,c2⟩:=qj (z:=g.size) (w:=s.words) (k:=k) (by omega) (by omega) (by omega)
   obtain⟨k1,k2,k3⟩:=key _ c1 (by omega) ha
   have e1:((k:Int)*g.size) % g.size=0:=Int.mul_emod_left _ _
   have e2:((k:Int)*g.size)/g.size=k:=Int.mul_ediv_cancel _ (by omega)
   unfold aP.at
   rw[if_neg k1,k2,k3,hg]
   have hgd:g.used.getD k false=true:=by simp[List.getD,h2]
   simp[jq,h1,e1,e2,hkl]
   exact(List.getElem?_eq_some_iff.1 h2).2
theorem cZ{s:aP}(v:s.V){a z:Int}:
  s.aH a=some z↔ ∃(n:Nat) (g:bC),s.pages[n]? =some g/\ ((g.kind=2/\a=s.begin n/\z=dS s.words g.size*s.words)∨(g.kind=1/\z=g.size/\ ∃k:Nat,g.used[k]? =some true/\a=s.begin n+(k:Int)*g.size)):=by
 unfold aP.aH
 constructor
 ·intro h
  obtain⟨⟨n,k⟩,h1,h2⟩:=Option.map_eq_some_iff.1 h
  obtain⟨g,hg,hh⟩:=(sH v).1 h1
  refine⟨n,g,hg, ?_⟩
  simp only[hg]at h2
  rcases hh with⟨a1,rfl,a2⟩|⟨a1,a2,a3⟩
  ·refine .inl ⟨a1,a2, ?_⟩
   rw[<-h2,aP.lS,if_pos a1]
  ·refine .inr ⟨a1, ?_,k,a2,a3⟩
   rw[<-h2,aP.lS,if_neg (by omega)]
 ·rintro⟨n,g,hg,hh⟩
  rcases hh with⟨a1,a2,rfl⟩|⟨a1,rfl,k,a2,a3⟩
  ·rw[(sH v (n:=n) (k:=0)).2 ⟨g,hg, .inl ⟨a1,rfl,a2⟩⟩]
   simp[hg,aP.lS,a1]
  ·rw[(sH v (n:=n) (k:=k)).2 ⟨g,hg, .inr ⟨a1,a2,a3⟩⟩]
   simp[hg,aP.lS,a1]
theorem je{s:aP}(v:s.V){n m:Nat}(h:n<m):s.begin n+s.words<=s.begin m:=by
 have w16:=v.w16
 unfold aP.begin
 have h1:((n:Int)+1)*s.words<=(m:Int)*s.words:=Int.mul_le_mul_of_nonneg_right (by omega) (by omega)
 rw[Int.add_mul]at h1
 omega
theorem D6(s:aP)(n:Nat)(c:Int)(hc:0<=c):s.begin n+c*s.words=s.begin (n+c.toNat):=by
 unfold aP.begin
 have:((n+c.toNat:Nat):Int)=n+c:=by omega
 rw[this,Int.add_mul]
 omega
theorem AV{s:aP}(v:s.V){n m:Nat}(h:n<=m):s.begin n<=s.begin m:=by
 have w16:=v.w16
 unfold aP.begin
 have h1:(n:Int)*s.words<=(m:Int)*s.words:=Int.mul_le_mul_of_nonneg_right (by omega) (by omega)
 omega
theorem rq{s:aP}(v:s.V){a z:Int}(h:s.aH a=some z):s.base<=a/\1<=z/\a+z<=s.base+s.pages.length*s.words:=by
 have w16:=v.w16
 obtain⟨n,g,hg,hh⟩:=(cZ v).1 h
 have hn:n<s.pages.length:=(List.getElem?_eq_some_iff.1 hg).1
 have hb:s.base<=s.begin n:=by
  unfold aP.begin
  have:0<=(n:Int)*s.words:=Int.mul_nonneg (by omega) (by omega)
  omega
 have hend: ∀m:Nat,m<=s.pages.length->s.begin m<=s.base+s.pages.length*s.words:=by
  intro m hm
  have:=AV v hm
  unfold aP.begin at this⊢
  omega
 rcases hh with⟨a1,rfl,rfl⟩|⟨a1,rfl,k,a2,rfl⟩
 ·obtain⟨b1,b2,b3,_⟩:=v.big n g hg a1
  obtain⟨y1,y2,y3⟩:=fU b1 b2 w16
  refine⟨hb,by omega, ?_⟩
  rw[D6 _ _ _ (by omega)]
  exact hend _ (by omega)
 ·obtain⟨z1,z2,z3,z4⟩:=v.blk n g hg a1
  have hkl:k<g.used.length:=(List.getElem?_eq_some_iff.1 a2).1
  obtain⟨c1,c2⟩:=qj (z:=g.size) (w:=s.words) (k:=k) (by omega) (by omega) (by omega)
  have:=hend (n+1) (by omega)
  have:=je v (n:=n) (m:=n+1) (by omega)
  exact⟨by omega,by omega,by omega⟩
theorem xM{s:aP}(v:s.V){a b y z:Int}(ha:s.aH a=some y)(hb:s.aH b=some z)(hne:a≠b):a+y<=b∨b+z<=a:=by
 have w16:=v.w16
 have key: ∀{a b y z:Int} {n m:Nat} {g g':bC},s.pages[n]? =some g->s.pages[m]? =some g'->n<m->
   ((g.kind=2/\a=s.begin n/\y=dS s.words g.size*s.words)∨(g.kind=1/\y=g.size/\ ∃k:Nat,g.used[k]? =some true/\a=s.begin n+(k:Int)*g.size))->
   ((g'.kind=2/\b=s.begin m/\z=dS s.words g'.size*s.words)∨(g'.kind=1/\z=g'.size/\ ∃k:Nat,g'.used[k]? =some true/\b=s.begin m+(k:Int)*g'.size))->a+y<=b:=by
  intro a b y z n m g g' hg hg' hlt h1 h2
  have hbm:s.begin m<=b/\g'.kind≠3:=by
   rcases h2 with⟨a1,rfl,_⟩|⟨a1,_,k,a2,rfl⟩
   ·exact⟨Int.le_refl _,by omega⟩
   ·obtain⟨z1,z2,z3,z4⟩:=v.blk m g' hg' a1
    have:0<=(k:Int)*g'.size:=Int.mul_nonneg (by omega) (by omega)
    exact⟨by omega,by omega⟩
  rcases h1 with⟨a1,rfl,rfl⟩|⟨a1,rfl,k,a2,rfl⟩
  ·obtain⟨b1,b2,b3,b4⟩:=v.big n g hg a1
   obtain⟨y1,y2,y3⟩:=fU b1 b2 w16
   rw[D6 _ _ _ (by omega)]
   by_cases hc:n+(dS s.words g.size).toNat<=m
   ·have:=AV v hc
    omega
   ·obtain⟨g'',q1,q2⟩:=b4 (m-n) (by omega) (by omega)
    rw[show n+(m-n)=m by omega,hg']at q1
    cases q1
    exact absurd q2 hbm.2
  ·obtain⟨z1,z2,z3,z4⟩:=v.blk n g hg a1
   have hkl:k<g.used.length:=(List.getElem?_eq_some_iff.1 a2).1
   obtain⟨c1,c2⟩:=qj (z:=g.size) (w:=s.words) (k:=k) (by omega) (by omega) (by omega)
   have:=je v hlt
   omega
 obtain⟨n,g,hg,h1⟩:=(cZ v).1 ha
 obtain⟨m,g',hg',h2⟩:=(cZ v).1 hb
 rcases Nat.lt_trichotomy n m with hlt|rfl|hlt
 ·exact .inl (key hg hg' hlt h1 h2)
 ·rw[hg]at hg'
  cases hg'
  rcases h1 with⟨a1,rfl,rfl⟩|⟨a1,rfl,k,a2,rfl⟩
  ·rcases h2 with⟨_,rfl,_⟩|⟨c1,_⟩
   ·exact absurd rfl hne
   ·omega
  ·rcases h2 with⟨c1,_⟩|⟨_,rfl,j,c2,rfl⟩
   ·omega
   ·obtain⟨z1,z2,z3,z4⟩:=v.blk n g hg a1
    rcases Nat.lt_trichotomy k j with hlt|rfl|hlt
    ·left
     have:((k:Int)+1)*g.size<=(j:Int)*g.size:=Int.mul_le_mul_of_nonneg_right (by omega) (by omega)
     rw[Int.add_mul]at this
     omega
    ·exact absurd rfl hne
    ·right
     have:((j:Int)+1)*g.size<=(k:Int)*g.size:=Int.mul_le_mul_of_nonneg_right (by omega) (by omega)
     rw[Int.add_mul]at this
     omega
 ·exact .inr (key hg' hg hlt h2 h1)
end Go.Proofs.YtibemcgdmembeaaGreat
namespace Go.Proofs.YtibemcgdmembeaaGreat
open Go.RowKit
theorem yI{c:Nat}: ∀(l:List bC) (pre:List bC) (run n:Nat),run<=pre.length->run<c->(∀j,j<run-> ∃g,pre[pre.length-1-j]? =some g/\g.kind=0)->nD c l pre.length run=some n->
  ∀k,k<c-> ∃g,(pre++l)[n+k]? =some g/\g.kind=0
 |[],pre,run,n,_,_,_,h=>by cases h
 |g::l,pre,run,n,hr,hc,hp,h=>by
  unfold nD at h
  have hlen:(pre++[g]).length=pre.length+1:=by simp
  have happ:pre++g::l=(pre++[g])++l:=by simp
  split at h
  ·rename_i hk
   split at h
   ·rename_i hq
    cases h
    intro k hk2
    by_cases he:k=c-1
    ·refine⟨g, ?_,hk⟩
     rw[show pre.length+1-c+k=pre.length by omega]
     simp
    ·obtain⟨g',h1,h2⟩:=hp (run-1-k) (by omega)
     refine⟨g', ?_,h2⟩
     rw[show pre.length-1-(run-1-k)=pre.length+1-c+k by omega]at h1
     have hlt:pre.length+1-c+k<pre.length:=(List.getElem?_eq_some_iff.1 h1).1
     rw[List.getElem?_append_left hlt]
     exact h1
   ·rw[happ]
    refine yI l (pre++[g]) (run+1) n (by omega) (by omega) ?_ (by rw[hlen];exact h)
    intro j hj
    cases j with
    |zero=>exact⟨g,by simp,hk⟩
    |succ j=>
     obtain⟨g',h1,h2⟩:=hp j (by omega)
     refine⟨g', ?_,h2⟩
     have hlt:pre.length-1-j<pre.length:=(List.getElem?_eq_some_iff.1 h1).1
     rw[hlen,show pre.length+1-1-(j+1)=pre.length-1-j by omega,List.getElem?_append_left hlt]
     exact h1
  ·rw[happ]
   exact yI l (pre++[g]) 0 n (by omega) (by omega) (fun j hj=>by omega) (by rw[hlen];exact h)
theorem D7{c:Nat}(hc:1<=c){l:List bC}{n:Nat}(h:nD c l 0 0=some n):n+c<=l.length/\ ∀k,k<c-> ∃g,l[n+k]? =some g/\g.kind=0:=
 ⟨Gt hc h,by simpa using yI l [] 0 n (by simp) (by omega) (fun j hj=>by omega) h⟩
theorem AX{size:Int}: ∀{l:List bC} {o n k:Nat},oD size l o=some (n,k)->o<=n/\ ∃g,l[n-o]? =some g/\g.kind=1/\g.size=size/\g.pending=false/\qJ g.used=some k
 |[],_,_,_,h=>by cases h
 |g::l,o,n,k,h=>by
  have key:oD size l (o+1)=some (n,k)->o<=n/\ ∃g',(g::l)[n-o]? =some g'/\g'.kind=1/\g'.size=size/\g'.pending=false/\qJ g'.used=some k:=fun h=>by
   obtain⟨h1,g',h2,h3⟩:=AX h
   refine⟨by omega,g', ?_,h3⟩
   rw[show n-o=(n-(o+1))+1 by omega]
   simpa using h2
  unfold oD at h
  split at h
  ·rename_i hh
   split at h
   ·rename_i j hj
    simp only[Option.some.injEq,Prod.mk.injEq]at h
    obtain⟨rfl,rfl⟩:=h
    exact⟨Nat.le_refl _,g,by simp,hh.1.1,hh.1.2,hh.2,hj⟩
   ·exact key h
  ·exact key h
theorem zn(l:List bC)(n:Nat): ∀(c m:Nat),n+c<=l.length->(iI l n c)[m]? =if n<=m/\m<n+c then some uH else l[m]?
 |0,m,_=>by rw[if_neg (by omega)];rfl
 |c+1,m,h=>by
  have ih:=zn l n c m (by omega)
  have hlen:=mG l n c
  simp only[iI,List.getElem?_set]
  by_cases e:n+c=m
  ·rw[if_pos e,if_pos (by omega),if_pos (by omega)]
  ·rw[if_neg e,ih]
   by_cases h1:n<=m/\m<n+c
   ·rw[if_pos h1,if_pos (by omega)]
   ·rw[if_neg h1,if_neg (by omega)]
def cellOf(page words:Int):Int:=if qI page words then dS page words*page else wK words
structure Taken(s s':aP)(words t:Int):Prop where
 v:s'.V
 base:s'.base=s.base
 ws:s'.words=s.words
 len:s'.pages.length=s.pages.length
 new:s.aH t=none
 size:s'.aH t=some (cellOf s.words words)
 rest: ∀a,a≠t->s'.aH a=s.aH a
theorem MO{s:aP}(v:s.V){words:Int}(h1:1<=words)(h2:words<=66){t:Int}{s':aP}(h:s.take words=some (t,s')):Taken s s' words t:=by
 have w16:=v.w16
 have AU:=v.AU
 have ext: ∀{s':aP} (v':s'.V) {t:Int},(∀a,a≠t-> ∀z,s'.aH a=some z↔s.aH a=some z)-> ∀a,a≠t->s'.aH a=s.aH a:=fun {_} _ {_} h a ha=>Option.ext (fun z=>h a ha z)
 unfold aP.take at h
 split at h
 ·rename_i hL
  obtain⟨y1,y2,y3⟩:=fU h1 h2 w16
  obtain⟨c,hc⟩: ∃c:Nat,dS s.words words=c:=⟨(dS s.words words).toNat,by omega⟩
  rw[hc,Int.toNat_natCast]at h
  have hcell:cellOf s.words words=c*s.words:=by rw[cellOf,if_pos hL,hc]
  cases hq:nD c s.pages 0 0 with
  |none=>rw[hq]at h;cases h
  |some n=>
   rw[hq]at h
   simp only[aP.DZ,hc,Int.toNat_natCast,Option.some.injEq,Prod.mk.injEq]at h
   obtain⟨rfl,rfl⟩:=h
   obtain⟨q1,q2⟩:=D7 (by omega) hq
   have hget: ∀m,((iI s.pages n c).set n (kW words))[m]? =if m=n then some (kW words)else if n<=m/\m<n+c then some uH else s.pages[m]? :=by
    intro m
    rw[List.getElem?_set,zn _ _ _ _ q1,mG]
    by_cases e:n=m
    ·subst e
     rw[if_pos rfl,if_pos (by omega),if_pos rfl]
    ·rw[if_neg e,if_neg (show¬m=n from fun h=>e h.symm)]
   have hold: ∀m g,n<=m->m<n+c->s.pages[m]? =some g->g.kind=0:=by
    intro m g h1 h2 hg
    obtain⟨g',e1,e2⟩:=q2 (m-n) (by omega)
    rw[show n+(m-n)=m by omega,hg]at e1
    cases e1
    exact e2
   have v':aP.V {s with pages:=(iI s.pages n c).set n (kW words)}:=by
    refine⟨w16,AU,v.b0, ?_, ?_, ?_⟩
    ·intro m g hg hk
     rw[hget]at hg
     split at hg
     ·cases hg;simp[kW]at hk
     ·split at hg
      ·cases hg;simp[uH]at hk
      ·exact v.blk m g hg hk
    ·intro m g hg hk
     have hlen:((iI s.pages n c).set n (kW words)).length=s.pages.length:=by simp[mG]
     simp only[hlen]
     rw[hget]at hg
     split at hg
     ·rename_i e
      cases hg
      subst e
      refine⟨h1,h2, ?_, ?_⟩
      ·show(m:Int)+dS s.words words<=_
       omega
      ·intro k k1 k2
       have k2':(k:Int)<dS s.words words:=k2
       exact⟨uH,by rw[hget,if_neg (by omega),if_pos (by omega)],rfl⟩
     ·split at hg
      ·cases hg;simp[uH]at hk
      ·rename_i e1 e2
       obtain⟨b1,b2,b3,b4⟩:=v.big m g hg hk
       refine⟨b1,b2,b3, ?_⟩
       intro k k1 k2
       obtain⟨g',g1,g2⟩:=b4 k k1 k2
       refine⟨g', ?_,g2⟩
       rw[hget]
       have hno: ¬(n<=m+k/\m+k<n+c):=by
        intro hh
        have:=hold _ _ hh.1 hh.2 g1
        omega
       rw[if_neg (by omega),if_neg hno]
       exact g1
    ·intro m g hg hk
     rw[hget]at hg
     split at hg
     ·cases hg;rfl
     ·split at hg
      ·cases hg;rfl
      ·exact v.az m g hg hk
   have hnew:s.aH (s.begin n)=none:=by
    cases hz:s.aH (s.begin n)with
    |none=>rfl
    |some z=>
     exfalso
     obtain⟨m,g,hg,hh⟩:=(cZ v).1 hz
     have hmn:m=n:=by
      rcases hh with⟨_,e,_⟩|⟨a1,_,k,a2,e⟩
      ·rcases Nat.lt_trichotomy n m with h|h|h
       ·have:=je v h;omega
       ·exact h.symm
       ·have:=je v h;omega
      ·obtain⟨z1,z2,z3,z4⟩:=v.blk m g hg a1
       have hkl:k<g.used.length:=(List.getElem?_eq_some_iff.1 a2).1
       obtain⟨c1,c2⟩:=qj (z:=g.size) (w:=s.words) (k:=k) (by omega) (by omega) (by omega)
       rcases Nat.lt_trichotomy n m with h|h|h
       ·have:=je v h;omega
       ·exact h.symm
       ·have:=je v h;omega
     subst hmn
     have:=hold m g (by omega) (by omega) hg
     rcases hh with⟨a1,_⟩|⟨a1,_⟩<;>omega
   refine⟨v',rfl,rfl,by simp[mG],hnew, ?_,ext v' ?_⟩
   ·rw[cZ v']
    exact⟨n,kW words,by rw[hget,if_pos rfl], .inl ⟨rfl,rfl,hcell.trans (by show(c:Int)*s.words=dS s.words words*s.words;rw[hc])⟩⟩
   ·intro a ha z
    rw[cZ v',cZ v]
    constructor
    ·rintro⟨m,g,hg,hh⟩
     simp only at hg
     rw[hget]at hg
     split at hg
     ·rename_i e
      cases hg
      subst e
      rcases hh with⟨_,e,_⟩|⟨a1,_⟩
      ·exact absurd e ha
      ·simp[kW]at a1
     ·split at hg
      ·cases hg
       rcases hh with⟨a1,_⟩|⟨a1,_⟩<;>simp[uH]at a1
      ·exact⟨m,g,hg,hh⟩
    ·rintro⟨m,g,hg,hh⟩
     have hno: ¬(n<=m/\m<n+c):=by
      intro hq
      have:=hold m g hq.1 hq.2 hg
      rcases hh with⟨a1,_⟩|⟨a1,_⟩<;>omega
     exact⟨m,g,by simp only;rw[hget,if_neg (by omega),if_neg hno];exact hg,hh⟩
 ·rename_i hL
  have hcell:cellOf s.words words=wK words:=by rw[cellOf,if_neg hL]
  obtain⟨r1,r2⟩:=sD words
  have hrw:wK words<=s.words:=by
   simp only[qI,decide_eq_true_eq]at hL
   omega
  generalize wK words=R at*
  unfold aP.inB aP.fitted at h
  cases hf:oD R s.pages 0 with
  |some x=>
   obtain⟨n,k⟩:=x
   rw[hf]at h
   simp only[Option.some.injEq,Prod.mk.injEq]at h
   obtain⟨_,g,hg,g1,g2,g3,g4⟩:=AX hf
   rw[Nat.sub_zero]at hg
   obtain⟨k1,k2⟩:=wL g4
   have hs':s'=s.bu n (g.use k true):=by rw[<-h.2];simp[aP.KP,hg]
   have ht:=h.1
   clear h
   subst hs'
   have hn:n<s.pages.length:=(List.getElem?_eq_some_iff.1 hg).1
   have hget: ∀m,(s.bu n (g.use k true)).pages[m]? =if m=n then some (g.use k true)else s.pages[m]? :=by
    intro m
    show(s.pages.set n _)[m]? =_
    rw[List.getElem?_set]
    by_cases e:n=m
    ·subst e
     rw[if_pos rfl,if_pos hn,if_pos rfl]
    ·rw[if_neg e,if_neg (show¬m=n from fun h=>e h.symm)]
   have hlen:(s.bu n (g.use k true)).pages.length=s.pages.length:=by simp[aP.bu]
   have v':(s.bu n (g.use k true)).V:=by
    refine⟨w16,AU,v.b0, ?_, ?_, ?_⟩
    ·intro m g' hg' hk
     rw[hget]at hg'
     split at hg'
     ·cases hg'
      have:=v.blk n g hg g1
      simpa[bC.use,aP.bu]using this
     ·exact v.blk m g' hg' hk
    ·intro m g' hg' hk
     rw[hlen]
     rw[hget]at hg'
     split at hg'
     ·cases hg'
      have:g.kind=2:=hk
      omega
     ·obtain⟨b1,b2,b3,b4⟩:=v.big m g' hg' hk
      refine⟨b1,b2,b3, ?_⟩
      intro j j1 j2
      obtain⟨g'',e1,e2⟩:=b4 j j1 j2
      refine⟨g'', ?_,e2⟩
      rw[hget,if_neg]
      ·exact e1
      ·intro e
       rw[e,hg]at e1
       cases e1
       omega
    ·intro m g' hg' hk
     rw[hget]at hg'
     split at hg'
     ·cases hg'
      exact absurd g1 hk
     ·exact v.az m g' hg' hk
   have D8: ∀j,(g.use k true).used[j]? =some true↔j=k∨g.used[j]? =some true:=by
    intro j
    show(g.used.set k true)[j]? =some true↔_
    rw[List.getElem?_set]
    by_cases e:k=j
    ·subst e
     rw[if_pos rfl,if_pos k1]
     simp
    ·rw[if_neg e]
     constructor
     ·exact .inr
     ·rintro(h|h)
      ·exact absurd h.symm e
      ·exact h
   have hnew:s.aH t=none:=by
    cases hz:s.aH t with
    |none=>rfl
    |some z=>
     exfalso
     have:=(cZ v).1 hz
     obtain⟨m,g',hg',hh⟩:=this
     obtain⟨z1,z2,z3,z4⟩:=v.blk n g hg g1
     obtain⟨c1,c2⟩:=qj (z:=g.size) (w:=s.words) (k:=k) (by omega) (by omega) (by omega)
     rw[<-g2]at ht
     have hmn:m=n:=by
      rcases hh with⟨_,e,_⟩|⟨a1,_,j,a2,e⟩
      ·rcases Nat.lt_trichotomy n m with h|h|h
       ·have:=je v h;omega
       ·exact h.symm
       ·have:=je v h;omega
      ·obtain⟨w1,w2,w3,w4⟩:=v.blk m g' hg' a1
       have hkl:j<g'.used.length:=(List.getElem?_eq_some_iff.1 a2).1
       obtain⟨d1,d2⟩:=qj (z:=g'.size) (w:=s.words) (k:=j) (by omega) (by omega) (by omega)
       rcases Nat.lt_trichotomy n m with h|h|h
       ·have:=je v h;omega
       ·exact h.symm
       ·have:=je v h;omega
     subst hmn
     rw[hg]at hg'
     cases hg'
     rcases hh with⟨a1,_⟩|⟨a1,_,j,a2,e⟩
     ·omega
     ·have hjk:(j:Int)*g.size=(k:Int)*g.size:=by omega
      have hjk2:(j:Int)=k:=Int.eq_of_mul_eq_mul_right (by omega) hjk
      have:j=k:=by omega
      subst this
      rw[k2]at a2
      cases a2
   refine⟨v',rfl,rfl,hlen,hnew, ?_,ext v' ?_⟩
   ·rw[cZ v',hcell]
    exact⟨n,g.use k true,by rw[hget,if_pos rfl], .inr ⟨g1,g2.symm,k,(D8 k).2 (.inl rfl),by rw[<-ht];show _=s.begin n+(k:Int)*g.size;rw[g2]⟩⟩
   ·intro a ha z
    rw[cZ v',cZ v]
    constructor
    ·rintro⟨m,g',hg',hh⟩
     rw[hget]at hg'
     split at hg'
     ·rename_i e
      cases hg'
      subst e
      rcases hh with⟨a1,_⟩|⟨_,hz,j,a2,e⟩
      ·have:g.kind=2:=a1
       omega
      ·rcases(D8 j).1 a2 with rfl|a2
       ·exfalso
        apply ha
        rw[e,<-ht,<-g2]
        rfl
       ·exact⟨m,g,hg, .inr ⟨g1,hz,j,a2,e⟩⟩
     ·exact⟨m,g',hg',hh⟩
    ·rintro⟨m,g',hg',hh⟩
     by_cases e:m=n
     ·subst e
      rw[hg]at hg'
      cases hg'
      rcases hh with⟨a1,_⟩|⟨_,hz,j,a2,e⟩
      ·omega
      ·exact⟨m,g.use k true,by rw[hget,if_pos rfl], .inr ⟨g1,hz,j,(D8 j).2 (.inr a2),e⟩⟩
     ·exact⟨m,g',by rw[hget,if_neg e];exact hg',hh⟩
  |none=>
   rw[hf]at h
   simp only[aP.fresh]at h
   cases hq:nD 1 s.pages 0 0 with
   |none=>rw[hq]at h;cases h
   |some n=>
    rw[hq]at h
    simp only[Option.some.injEq,Prod.mk.injEq]at h
    obtain⟨rfl,rfl⟩:=h
    obtain⟨q1,q2⟩:=D7 (by omega) hq
    obtain⟨g0,hg0,hk0⟩:=q2 0 (by omega)
    rw[Nat.add_zero]at hg0
    have hn:n<s.pages.length:=by omega
    have hget: ∀m,(s.bu n (iH R s.words)).pages[m]? =if m=n then some (iH R s.words)else s.pages[m]? :=by
     intro m
     show(s.pages.set n _)[m]? =_
     rw[List.getElem?_set]
     by_cases e:n=m
     ·subst e
      rw[if_pos rfl,if_pos hn,if_pos rfl]
     ·rw[if_neg e,if_neg (show¬m=n from fun h=>e h.symm)]
    have hlen:(s.bu n (iH R s.words)).pages.length=s.pages.length:=by simp[aP.bu]
    have hdiv:1<=s.words/R:=(Int.le_ediv_iff_mul_le (by omega)).2 (by omega)
    have D8: ∀j,(iH R s.words).used[j]? =some true↔j=0:=by
     intro j
     show((List.replicate (s.words/R).toNat false).set 0 true)[j]? =some true↔_
     rw[List.getElem?_set]
     by_cases e:0=j
     ·subst e
      simp
      omega
     ·rw[if_neg e,List.getElem?_replicate]
      constructor
      ·intro h
       split at h<;>cases h
      ·intro h
       exact absurd h.symm e
    have v':(s.bu n (iH R s.words)).V:=by
     refine⟨w16,AU,v.b0, ?_, ?_, ?_⟩
     ·intro m g' hg' hk
      rw[hget]at hg'
      split at hg'
      ·cases hg'
       refine⟨r1,r2,hrw, ?_⟩
       show(((List.replicate (s.words/R).toNat false).set 0 true).length:Int)=s.words/R
       simp
       omega
      ·exact v.blk m g' hg' hk
     ·intro m g' hg' hk
      rw[hlen]
      rw[hget]at hg'
      split at hg'
      ·cases hg'
       simp[iH]at hk
      ·obtain⟨b1,b2,b3,b4⟩:=v.big m g' hg' hk
       refine⟨b1,b2,b3, ?_⟩
       intro j j1 j2
       obtain⟨g'',e1,e2⟩:=b4 j j1 j2
       refine⟨g'', ?_,e2⟩
       rw[hget,if_neg]
       ·exact e1
       ·intro e
        rw[e,hg0]at e1
        cases e1
        omega
     ·intro m g' hg' hk
      rw[hget]at hg'
      split at hg'
      ·cases hg'
       simp[iH]at hk
      ·exact v.az m g' hg' hk
    have hnew:s.aH (s.begin n)=none:=by
     cases hz:s.aH (s.begin n)with
     |none=>rfl
     |some z=>
      exfalso
      obtain⟨m,g,hg,hh⟩:=(cZ v).1 hz
      have hmn:m=n:=by
       rcases hh with⟨_,e,_⟩|⟨a1,_,k,a2,e⟩
       ·rcases Nat.lt_trichotomy n m with h|h|h
        ·have:=je v h;omega
        ·exact h.symm
        ·have:=je v h;omega
       ·obtain⟨z1,z2,z3,z4⟩:=v.blk m g hg a1
        have hkl:k<g.used.length:=(List.getElem?_eq_some_iff.1 a2).1
        obtain⟨c1,c2⟩:=qj (z:=g.size) (w:=s.words) (k:=k) (by omega) (by omega) (by omega)
        rcases Nat.lt_trichotomy n m with h|h|h
        ·have:=je v h;omega
        ·exact h.symm
        ·have:=je v h;omega
      subst hmn
      rw[hg0]at hg
      cases hg
      rcases hh with⟨a1,_⟩|⟨a1,_⟩<;>omega
    refine⟨v',rfl,rfl,hlen,hnew, ?_,ext v' ?_⟩
    ·rw[cZ v',hcell]
     exact⟨n,iH R s.words,by rw[hget,if_pos rfl], .inr ⟨rfl,rfl,0,(D8 0).2 rfl,by show s.begin n=s.begin n+((0:Nat):Int)*R;simp⟩⟩
    ·intro a ha z
     rw[cZ v',cZ v]
     constructor
     ·rintro⟨m,g',hg',hh⟩
      rw[hget]at hg'
      split at hg'
      ·rename_i e
       cases hg'
       subst e
       rcases hh with⟨a1,_⟩|⟨_,hz,j,a2,e⟩
       ·simp[iH]at a1
       ·have:=(D8 j).1 a2
        subst this
        exfalso
        apply ha
        rw[e]
        show s.begin m+((0:Nat):Int)*R=s.begin m
        simp
      ·exact⟨m,g',hg',hh⟩
     ·rintro⟨m,g',hg',hh⟩
      by_cases e:m=n
      ·subst e
       rw[hg0]at hg'
       cases hg'
       rcases hh with⟨a1,_⟩|⟨a1,_⟩<;>omega
      ·exact⟨m,g',by rw[hget,if_neg e];exact hg',hh⟩
end Go.Proofs.YtibemcgdmembeaaGreat
namespace Go.Proofs.YtibemcgdmembeaaGreat
open Go.RowKit
theorem zo{b size:Int}: ∀{l:List Bool} {j:Nat} {a:Int},a∈fA b size l j↔ ∃k:Nat,l[k]? =some true/\a=b+((j+k:Nat):Int)*size
 |[],j,a=>by simp[fA]
 |u::l,j,a=>by
  have ih:=zo (b:=b) (size:=size) (l:=l) (j:=j+1) (a:=a)
  simp only[fA]
  constructor
  ·intro h
   have key:a∈fA b size l (j+1)-> ∃k:Nat,(u::l)[k]? =some true/\a=b+((j+k:Nat):Int)*size:=fun h=>by
    obtain⟨k,h1,h2⟩:=ih.1 h
    exact⟨k+1,by simpa using h1,by rw[h2,show j+(k+1)=j+1+k by omega]⟩
   split at h
   ·rename_i hu
    rcases List.mem_cons.1 h with rfl|h
    ·exact⟨0,by simp[hu],by simp⟩
    ·exact key h
   ·exact key h
  ·rintro⟨k,h1,h2⟩
   cases k with
   |zero=>
    have hu:u=true:=by simpa using h1
    rw[if_pos hu]
    simp at h2
    rw[h2]
    exact List.mem_cons_self ..
   |succ k=>
    have:a∈fA b size l (j+1):=ih.2 ⟨k,by simpa using h1,by rw[h2,show j+(k+1)=j+1+k by omega]⟩
    split
    ·exact List.mem_cons_of_mem _ this
    ·exact this
theorem sJ{s:aP}(v:s.V){n:Nat}{g:bC}(hg:s.pages[n]? =some g){a:Int}:
  a∈s.iE n g↔ (g.kind=2/\a=s.begin n)∨(g.kind=1/\ ∃k:Nat,g.used[k]? =some true/\a=s.begin n+(k:Int)*g.size):=by
 unfold aP.iE
 by_cases h2:g.kind=2
 ·rw[if_pos h2]
  simp only[List.mem_singleton]
  constructor
  ·exact fun h=> .inl ⟨h2,h⟩
  ·rintro(⟨_,h⟩|⟨h,_⟩)
   ·exact h
   ·omega
 ·rw[if_neg h2,zo]
  simp only[Nat.zero_add]
  by_cases h1:g.kind=1
  ·constructor
   ·exact fun h=> .inr ⟨h1,h⟩
   ·rintro(⟨h,_⟩|⟨_,h⟩)
    ·exact absurd h h2
    ·exact h
  ·rw[v.az n g hg h1]
   constructor
   ·rintro⟨k,h,_⟩
    simp at h
   ·rintro(⟨h,_⟩|⟨h,_⟩)
    ·exact absurd h h2
    ·exact absurd h h1
theorem zq{s:aP}(v:s.V){lo hi a:Int}: ∀k:Nat,a∈s.bJ lo hi k↔ ∃n,n<k/\a∈s.l9 lo hi n
 |0=>by simp[aP.bJ]
 |k+1=>by
  rw[aP.bJ,List.mem_append,zq v k]
  constructor
  ·rintro(⟨n,h1,h2⟩|h)
   ·exact⟨n,by omega,h2⟩
   ·exact⟨k,by omega,h⟩
  ·rintro⟨n,h1,h2⟩
   by_cases e:n=k
   ·exact .inr (e▸h2)
   ·exact .inl ⟨n,by omega,h2⟩
theorem nO{s:aP}(v:s.V){lo hi a:Int}:a∈s.starts lo hi↔lo<=a/\a<hi/\ (s.aH a).isSome=true:=by
 have w16:=v.w16
 have hsome:(s.aH a).isSome=true↔ ∃(n:Nat) (g:bC),s.pages[n]? =some g/\a∈s.iE n g:=by
  rw[Option.isSome_iff_exists]
  constructor
  ·rintro⟨z,h⟩
   obtain⟨n,g,hg,hh⟩:=(cZ v).1 h
   refine⟨n,g,hg,(sJ v hg).2 ?_⟩
   rcases hh with⟨a1,a2,_⟩|⟨a1,_,a2⟩
   ·exact .inl ⟨a1,a2⟩
   ·exact .inr ⟨a1,a2⟩
  ·rintro⟨n,g,hg,h⟩
   rcases(sJ v hg).1 h with⟨a1,a2⟩|⟨a1,a2⟩
   ·exact⟨_,(cZ v).2 ⟨n,g,hg, .inl ⟨a1,a2,rfl⟩⟩⟩
   ·exact⟨_,(cZ v).2 ⟨n,g,hg, .inr ⟨a1,rfl,a2⟩⟩⟩
 unfold aP.starts
 rw[zq v,hsome]
 constructor
 ·rintro⟨n,hn,h⟩
  unfold aP.l9 at h
  split at h
  ·rename_i g hg
   unfold aP.pO at h
   split at h
   ·simp at h
   ·obtain⟨h1,h2⟩:=List.mem_filter.1 h
    simp only[g_,Bool.and_eq_true,decide_eq_true_eq]at h2
    exact⟨h2.1,h2.2,n,g,hg,h1⟩
  ·simp at h
 ·rintro⟨h1,h2,n,g,hg,h⟩
  refine⟨n,(List.getElem?_eq_some_iff.1 hg).1, ?_⟩
  unfold aP.l9
  rw[hg]
  simp only
  unfold aP.pO
  have hin:s.begin n<=a/\a<s.begin n+s.words:=by
   rcases(sJ v hg).1 h with⟨_,rfl⟩|⟨a1,k,a2,rfl⟩
   ·omega
   ·obtain⟨z1,z2,z3,z4⟩:=v.blk n g hg a1
    have hkl:k<g.used.length:=(List.getElem?_eq_some_iff.1 a2).1
    obtain⟨c1,c2⟩:=qj (z:=g.size) (w:=s.words) (k:=k) (by omega) (by omega) (by omega)
    omega
  rw[if_neg (by omega)]
  exact List.mem_filter.2 ⟨h,by simp[g_,h1,h2]⟩
theorem Gx{b k:Int}(hb:1<=b)(h1:16<=k)(h2:k<=256)(n:Nat):(⟨b,k,List.replicate n yC⟩:aP).V:=by
 have key: ∀(m:Nat) (g:bC),(List.replicate n yC)[m]? =some g->g=yC:=by
  intro m g hg
  rw[List.getElem?_replicate]at hg
  split at hg
  ·cases hg;rfl
  ·cases hg
 refine⟨h1,h2,hb, ?_, ?_, ?_⟩
 ·intro m g hg hk
  rw[key m g hg]at hk
  cases hk
 ·intro m g hg hk
  rw[key m g hg]at hk
  cases hk
 ·intro m g hg _
  rw[key m g hg]
  rfl
theorem zu{b k:Int}(hb:1<=b)(h1:16<=k)(h2:k<=256)(n:Nat)(a:Int):(⟨b,k,List.replicate n yC⟩:aP).aH a=none:=by
 cases hz:(⟨b,k,List.replicate n yC⟩:aP).aH a with
 |none=>rfl
 |some z=>
  exfalso
  obtain⟨m,g,hg,hh⟩:=(cZ (Gx hb h1 h2 n)).1 hz
  have:g=yC:=by
   simp only at hg
   rw[List.getElem?_replicate]at hg
   split at hg
   ·cases hg;rfl
   ·cases hg
  subst this
  rcases hh with⟨a1,_⟩|⟨a1,_⟩<;>cases a1
end Go.Proofs.YtibemcgdmembeaaGreat
