/- What Same of the document's graph comes to for rows that are alike: true. Conditions: rows of nodes and numbers that are whole. -/
import Derived.Test.YtibemcgdmembeaaGreatRows
import Derived.Test.YtibemcgdmembeaaGreatZA
import Derived.Test.YtibemcgdmembeaaGreatZD
import Derived.Test.YtibemcgdmembeaaGreatZE
import Derived.BigQuiet
import Derived.Deep.QuietTactic
import Derived.Test.YtibemcgdmembeaaGreatZB
import Derived.Test.YtibemcgdmembeaaGreatZG
import Derived.OrdersHeld
import Derived.Deep.RegionHeld3
set_option linter.unusedVariables false
set_option linter.unusedSimpArgs false
set_option maxRecDepth 100000
set_option maxHeartbeats 4000000
namespace Go.Proofs.YtibemcgdmembeaaGreat
open Go.RowKit
structure lM where
 kind:Int
 a:Int
 b:Int
 c:Int
 v:Int
structure rX where
 e:Int
 yes:Bool
 n:Int
 v:Int
deriving DecidableEq
def ak(s:lM):Array Value:=#[.int .i64 s.kind, .int .i64 s.a, .int .i64 s.b, .int .i64 s.c, .int .u64 s.v]
def ai(x:rX):Array Value:=#[.int .i64 x.e, .bool x.yes, .int .i64 x.n, .int .u64 x.v]
def aT:rX:=⟨0,false,0,0⟩
theorem bK{w:World}{b:Nat}{x:rX}{T:TypeId}(h:w.heap[b]? =some (.cells (ai x) T (0,0))):
  w.cell? ⟨b,0,none⟩=some (.int .i64 x.e)/\w.cell? ⟨b,1,none⟩=some (.bool x.yes)/\w.cell? ⟨b,2,none⟩=some (.int .i64 x.n)/\w.cell? ⟨b,3,none⟩=some (.int .u64 x.v):=
 ⟨cell_of h 0,cell_of h 1,cell_of h 2,cell_of h 3⟩
theorem jW{w:World}{b:Nat}{x:rX}{T:TypeId}(h:w.heap[b]? =some (.cells (ai x) T (0,0))):
  w.frozen? ⟨b,0,none⟩=false/\w.frozen? ⟨b,1,none⟩=false/\w.frozen? ⟨b,2,none⟩=false/\w.frozen? ⟨b,3,none⟩=false:=
 ⟨aO h 0,aO h 1,aO h 2,aO h 3⟩
theorem step_cells{w:World}{b:Nat}{x:lM}{T:TypeId}(h:w.heap[b]? =some (.cells (ak x) T (0,0))):
  w.cell? ⟨b,0,none⟩=some (.int .i64 x.kind)/\w.cell? ⟨b,1,none⟩=some (.int .i64 x.a)/\w.cell? ⟨b,2,none⟩=some (.int .i64 x.b)/\w.cell? ⟨b,3,none⟩=some (.int .i64 x.c)/\w.cell? ⟨b,4,none⟩=some (.int .u64 x.v):=
 ⟨cell_of h 0,cell_of h 1,cell_of h 2,cell_of h 3,cell_of h 4⟩
theorem aj.dP{w0 w w':World}{h0 x h h':Hp}(a:aj h0 (x++h) w0 w)(u:aj h h' w w'):aj h0 (x++h') w0 w':=by
 have u2:=u.beside (k:=x) (a.au.perm List.perm_append_comm)
 exact a.trans (u2.perm List.perm_append_comm List.perm_append_comm)
theorem aj.lV{w0 w:World}{h r:Hp}{b:Nat}{x:rX}{T:TypeId}{fr:Nat×Nat}(a:aj h ((b, .cells (ai x) T fr)::r) w0 w)(y:rX):
  aj h ((b, .cells (ai y) T fr)::r) w0 ((((w.setCell ⟨b,0,none⟩ (.int .i64 y.e)).setCell ⟨b,1,none⟩ (.bool y.yes)).setCell ⟨b,2,none⟩ (.int .i64 y.n)).setCell ⟨b,3,none⟩ (.int .u64 y.v)):=
 (((a.store1 0 (.int .i64 y.e)).store1 1 (.bool y.yes)).store1 2 (.int .i64 y.n)).store1 3 (.int .u64 y.v)
theorem aj.SE{w0 w:World}{h r:Hp}{b:Nat}{x:rX}{T:TypeId}{fr:Nat×Nat}(a:aj h ((b, .cells (ai x) T fr)::r) w0 w)(y:Int):
  aj h ((b, .cells (ai {x with e:=y}) T fr)::r) w0 (w.setCell ⟨b,0,none⟩ (.int .i64 y)):=a.store1 0 _
theorem aj.WW{w0 w:World}{h r:Hp}{b:Nat}{x:rX}{T:TypeId}{fr:Nat×Nat}(a:aj h ((b, .cells (ai x) T fr)::r) w0 w)(y:Bool):
  aj h ((b, .cells (ai {x with yes:=y}) T fr)::r) w0 (w.setCell ⟨b,1,none⟩ (.bool y)):=a.store1 1 _
theorem aj.Y1{w0 w:World}{h r:Hp}{b:Nat}{x:rX}{T:TypeId}{fr:Nat×Nat}(a:aj h ((b, .cells (ai x) T fr)::r) w0 w)(y:Int):
  aj h ((b, .cells (ai {x with n:=y}) T fr)::r) w0 (w.setCell ⟨b,2,none⟩ (.int .i64 y)):=a.store1 2 _
theorem aj.WX{w0 w:World}{h r:Hp}{b:Nat}{x:rX}{T:TypeId}{fr:Nat×Nat}(a:aj h ((b, .cells (ai x) T fr)::r) w0 w)(y:Int):
  aj h ((b, .cells (ai {x with v:=y}) T fr)::r) w0 (w.setCell ⟨b,3,none⟩ (.int .u64 y)):=a.store1 3 _
end Go.Proofs.YtibemcgdmembeaaGreat
namespace Go.Proofs.YtibemcgdmembeaaGreat
open Go.RowKit
structure qB where
 ptrs:List Int
 iD:List Int
def nd0:qB:=⟨[],[]⟩
def qB.wd(x:qB):Int:=x.ptrs.length+x.iD.length+2
structure a_ where
 nodes:List qB
 hs:List Int
 largest:Int
def a_.wrong(g:a_)(h:Int):Int:=if bY g.hs h then(if aB g.hs h=0 then 4 else 0)else 3
def a_.nd(g:a_)(h:Int):qB:=g.nodes.getD (aB g.hs h).toNat nd0
def Y2{α:Type}(l:List α)(i:Int):Bool:=decide (0<=i/\i<l.length)
def a_.eX(g:a_)(p c:Int):Bool:=decide (0<=p/\0<=c/\p<=g.largest/\c<=g.largest-p)
def a_.gI(g:a_)(a b c:Int):Int:=if bY g.hs a then(if g.eX b c then 0 else 6)else 3
def a_.J9(g:a_)(a b c:Int):Int:=if g.wrong b=0 then(if bY g.hs a then(if Y2 (g.nd b).ptrs c then 0 else 5)else 3)else g.wrong b
def a_.SG(g:a_)(a b c:Int):Int:=if g.wrong a=0 then(if bY g.hs c then(if Y2 (g.nd a).ptrs b then 0 else 5)else 3)else g.wrong a
def a_.jf(g:a_)(a b:Int):Int:=if g.wrong a=0 then(if Y2 (g.nd a).iD b then 0 else 5)else g.wrong a
def a_.make(g:a_)(a b c:Int):a_:={g with nodes:=g.nodes++[⟨List.replicate b.toNat 0,List.replicate c.toNat 0⟩],hs:=bP g.hs a g.nodes.length}
def a_.get(g:a_)(a b c:Int):a_:={g with hs:=bP g.hs a (rd (g.nd b).ptrs c)}
def a_.Iq(g:a_)(a:Int)(x:qB):a_:={g with nodes:=g.nodes.set (aB g.hs a).toNat x}
def a_.set(g:a_)(a b c:Int):a_:=g.Iq a {g.nd a with ptrs:=(g.nd a).ptrs.set b.toNat (aB g.hs c)}
def a_.write(g:a_)(a b v:Int):a_:=g.Iq a {g.nd a with iD:=(g.nd a).iD.set b.toNat v}
def oh(g:a_)(x:lM):a_:=
 if x.kind=1 then(if g.gI x.a x.b x.c=0 then g.make x.a x.b x.c else g)
 else if x.kind=2 then(if g.J9 x.a x.b x.c=0 then g.get x.a x.b x.c else g)
 else if x.kind=3 then(if g.SG x.a x.b x.c=0 then g.set x.a x.b x.c else g)
 else if x.kind=5 then(if g.jf x.a x.b=0 then g.write x.a x.b x.v else g)
 else if x.kind=6 then {g with hs:=bP g.hs x.a 0}
 else if x.kind=7 then(if bY g.hs x.b then {g with hs:=bP g.hs x.a (aB g.hs x.b)}else g)
 else g
def Qn(g:a_)(x:lM):rX:=
 if x.kind=1 then⟨g.gI x.a x.b x.c,false,0,0⟩
 else if x.kind=2 then⟨g.J9 x.a x.b x.c,false,0,0⟩
 else if x.kind=3 then⟨g.SG x.a x.b x.c,false,0,0⟩
 else if x.kind=4 then⟨g.jf x.a x.b,false,0,if g.jf x.a x.b=0 then rd (g.nd x.a).iD x.b else 0⟩
 else if x.kind=5 then⟨g.jf x.a x.b,false,0,0⟩
 else if x.kind=6 then⟨bI g.hs x.a,false,0,0⟩
 else if x.kind=7 then⟨if bY g.hs x.a&&bY g.hs x.b then 0 else 3,false,0,0⟩
 else if x.kind=8 then⟨if bY g.hs x.a&&bY g.hs x.b then 0 else 3,bY g.hs x.a&&bY g.hs x.b&&decide (aB g.hs x.a=aB g.hs x.b),0,0⟩
 else if x.kind=9 then⟨bI g.hs x.a,bY g.hs x.a&&decide (aB g.hs x.a=0),0,0⟩
 else if x.kind=10 then⟨g.wrong x.a,false,if g.wrong x.a=0 then(g.nd x.a).ptrs.length else 0,if g.wrong x.a=0 then(g.nd x.a).iD.length else 0⟩
 else⟨1,false,0,0⟩
def Df(c:gX):a_:=⟨[nd0],List.replicate c.handles.toNat 0,c.largest⟩
end Go.Proofs.YtibemcgdmembeaaGreat
namespace Go.Proofs.YtibemcgdmembeaaGreat
open Go.RowKit
abbrev J_(l:List Int):List Value:=l.map (Value.int .u64)
theorem aK.numAt{T:TypeId}{ao:Option Addr}{n cap:Nat}{l:List Int}{h:Hp}{w:World}{kd:IntKind}(sl:aK T 1 (.slice ao n cap) n (l.map (Value.int kd)) h)(hi:In w h){k:Nat}(hk:k<n):
  ∃g off,ao=some ⟨g,off,none⟩/\w.cell? ⟨g,off+k,none⟩=some (.int kd (l.getD k 0))/\ ∀j,w.frozen? ⟨g,j,none⟩=false:=by
 obtain⟨g,off,cap',hv,_⟩:=sl.addr (by omega)
 have hl:k<l.length:=by have:=sl.1;simp at this;omega
 have hc:=sl.cell hi hv (j:=k) (by simpa using hl)
 have hf:=fun j=>sl.frozen hi hv j
 simp only[Value.slice.injEq]at hv
 refine⟨g,off,hv.1, ?_,hf⟩
 rw[hc]
 simp[List.getD,hl]
structure iK where
 node:qB
 vp:Value
 vs:Value
 hp:Hp
 hs:Hp
def iK.cells(r:iK):List Value:=[r.vp,r.vs]
def iK.blocks(r:iK):Hp:=r.hp++r.hs
structure iK.Ok(r:iK):Prop where
 p:aK 3 1 r.vp r.node.ptrs.length (ints r.node.ptrs) r.hp
 s:aK 33 1 r.vs r.node.iD.length (J_ r.node.iD) r.hs
def acF(g:a_)(vn vh:Value):Obj:= .cells #[vn,vh, .int .i64 g.largest] 87 (0,0)
abbrev abM(p:Nat)(o:Obj)(hn hh:Hp)(rows:List iK):List Hp:=[(p,o)]::hn::hh::rows.map iK.blocks
def aa'(p:Nat)(g:a_)(h:Hp):Prop:=
 ∃vn vh hn hh rows,h=(abM p (acF g vn vh) hn hh rows).flatten/\aK 79 2 vn rows.length (rows.flatMap iK.cells) hn/\aK 3 1 vh g.hs.length (ints g.hs) hh/\ (∀r∈rows,r.Ok)/\g.nodes=rows.map iK.node
structure a_.Ok(g:a_):Prop where
 n1:1<=g.nodes.length
 n2:g.nodes.length<=1048576
 hv: ∀x∈g.hs,0<=x/\x<g.nodes.length
 h64:g.hs.length<=64
 pv: ∀x∈g.nodes,∀y∈x.ptrs,0<=y/\y<g.nodes.length
 sz: ∀x∈g.nodes,x.ptrs.length<=64/\x.iD.length<=64
 l0:0<=g.largest
 l1:g.largest<=64
theorem N9: ∀(rows:List iK) (n j:Nat),j<2->(rows.flatMap iK.cells)[n*2+j]? =(rows[n]?).bind fun r=>(iK.cells r)[j]? :=by
 intro rows
 induction rows with
 |nil=>intro n j _;simp
 |cons r rows ih=>
  intro n j hj
  cases n with
  |zero=>
   simp only[List.flatMap_cons,Nat.zero_mul,Nat.zero_add,List.getElem?_cons_zero,Option.bind_some]
   rw[List.getElem?_append_left (by simp[iK.cells];exact hj)]
  |succ n=>
   have e:(n+1)*2+j=(iK.cells r).length+(n*2+j):=by simp[iK.cells];omega
   simp only[List.flatMap_cons,List.getElem?_cons_succ]
   rw[e,List.getElem?_append_right (by omega)]
   rw[Nat.add_sub_cancel_left]
   exact ih n j hj
theorem N_(rows:List iK):(rows.flatMap iK.cells).length=rows.length*2:=by
 induction rows with
 |nil=>rfl
 |cons r rows ih=>simp only[List.flatMap_cons,List.length_append,ih,List.length_cons];simp[iK.cells];omega
section
variable{w:World}{p:Nat}{g:a_}{x h:Hp}
theorem aa'.own(gh:aa' p g h)(hi:In w (x++h)):
  ∃an SY adD S_,w.cell? ⟨p,0,none⟩=some (.slice an g.nodes.length SY)/\w.cell? ⟨p,1,none⟩=some (.slice adD g.hs.length S_)/\w.cell? ⟨p,2,none⟩=some (.int .i64 g.largest)/\ (∀i,w.frozen? ⟨p,i,none⟩=false)/\
   ∀i:Nat,i<g.hs.length-> ∃b o,adD=some ⟨b,o,none⟩/\w.cell? ⟨b,o+i,none⟩=some (.int .i64 (g.hs.getD i 0))/\ ∀j,w.frozen? ⟨b,j,none⟩=false:=by
 obtain⟨vn,vh,hn,hh,rows,rfl,sn,sh,hr,hg⟩:=gh
 obtain⟨an,SY,rfl,_⟩:=sn.shape
 obtain⟨adD,S_,rfl,_⟩:=sh.shape
 have hb:=(hi.right.part (i:=0) rfl).head
 have hl:g.nodes.length=rows.length:=by rw[hg];simp
 rw[hl]
 exact⟨an,SY,adD,S_,cell_of hb 0,cell_of hb 1,cell_of hb 2,fun i=>aO hb i,fun i hil=>sh.numAt (hi.right.part (i:=2) rfl) hil⟩
theorem aa'.node(gh:aa' p g h)(hi:In w (x++h)){n:Nat}(hn:n<g.nodes.length):
  ∃b o SY ap yx adE caps,w.cell? ⟨p,0,none⟩=some (.slice (some ⟨b,o,none⟩) g.nodes.length SY)/\
   w.cell? ⟨b,o+n*2,none⟩=some (.slice ap (g.nodes.getD n nd0).ptrs.length yx)/\w.cell? ⟨b,o+n*2+1,none⟩=some (.slice adE (g.nodes.getD n nd0).iD.length caps)/\
   (∀i:Nat,i<(g.nodes.getD n nd0).ptrs.length-> ∃b o,ap=some ⟨b,o,none⟩/\w.cell? ⟨b,o+i,none⟩=some (.int .i64 ((g.nodes.getD n nd0).ptrs.getD i 0))/\ ∀j,w.frozen? ⟨b,j,none⟩=false)/\
   (∀i:Nat,i<(g.nodes.getD n nd0).iD.length-> ∃b o,adE=some ⟨b,o,none⟩/\w.cell? ⟨b,o+i,none⟩=some (.int .u64 ((g.nodes.getD n nd0).iD.getD i 0))/\ ∀j,w.frozen? ⟨b,j,none⟩=false):=by
 obtain⟨vn,vh,hn',hh,rows,rfl,sn,sh,hr,hg⟩:=gh
 have hl:g.nodes.length=rows.length:=by rw[hg];simp
 have hb:=(hi.right.part (i:=0) rfl).head
 have hnr:n<rows.length:=by omega
 have hrn:rows[n]? =some rows[n]:=List.getElem?_eq_getElem hnr
 have acG:g.nodes.getD n nd0=rows[n].node:=by rw[hg];simp[List.getD,hnr]
 have hok:=hr rows[n] (List.getElem_mem hnr)
 have hpart:In w rows[n].blocks:=hi.right.part (i:=n+3) (by simp[hrn])
 obtain⟨b,o,SY,hv,_⟩:=sn.addr (by omega)
 have hxl:=N_ rows
 have c0:=sn.cell (hi.right.part (i:=1) rfl) hv (j:=n*2) (by omega)
 have c1:=sn.cell (hi.right.part (i:=1) rfl) hv (j:=n*2+1) (by omega)
 have g0:=N9 rows n 0 (by omega)
 have g1:=N9 rows n 1 (by omega)
 rw[hrn]at g0 g1
 have e0:(rows.flatMap iK.cells)[n*2]? =some rows[n].vp:=g0
 have e1:(rows.flatMap iK.cells)[n*2+1]? =some rows[n].vs:=g1
 rw[<-List.getElem?_eq_getElem]at c0 c1
 rw[e0]at c0
 rw[e1]at c1
 obtain⟨ap,yx,hvp,_⟩:=hok.p.shape
 obtain⟨adE,caps,hvs,_⟩:=hok.s.shape
 rw[hvp]at c0
 rw[hvs]at c1
 have hp2:=hok.p
 have hs2:=hok.s
 rw[hvp]at hp2
 rw[hvs]at hs2
 subst hv
 rw[hl,acG]
 exact⟨b,o,SY,ap,yx,adE,caps,cell_of hb 0,c0,c1,fun i hil=>hp2.numAt hpart.left hil,fun i hil=>hs2.numAt hpart.right hil⟩
end
end Go.Proofs.YtibemcgdmembeaaGreat
namespace Go.Proofs.YtibemcgdmembeaaGreat
open Go.RowKit
def qU(met:List Int)(x:Int):List Int:=if x=0∨x∈met then met else met++[x]
def mP(met l:List Int):List Int:=l.foldl qU met
def uY(pc:Nat):Value:= .func (.func 78) #[ptr pc] #[]
def qC(pc OB NB MB:Nat)(L:aX)(s:af)(met:List Int)(h:Hp):Prop:=
 ∃mb v hv hc,h=(OB, .cells #[v] 41 (0,0))::(NB, .cells #[uY pc] 113 (0,0))::(MB, .cells #[.map (some mb)] 112 (0,0))::(mb,iG (0::met))::(hv++hc)/\aK 3 1 v met.length (ints met) hv/\ah pc L s hc
abbrev ED(pc OB NB MB mb:Nat)(v:Value)(met:List Int)(hv:Hp):Hp:=(OB, .cells #[v] 41 (0,0))::(NB, .cells #[uY pc] 113 (0,0))::(MB, .cells #[.map (some mb)] 112 (0,0))::(mb,iG (0::met))::hv
theorem nX{pc OB NB MB mb:Nat}{v:Value}{met:List Int}{hv hc:Hp}{w:World}(hi:In w (ED pc OB NB MB mb v met hv++hc)):
  w.cell? ⟨OB,0,none⟩=some v/\w.cell? ⟨NB,0,none⟩=some (uY pc)/\w.cell? ⟨MB,0,none⟩=some (.map (some mb))/\w.heap[mb]? =some (iG (0::met))/\w.frozen? ⟨OB,0,none⟩=false:=
 ⟨cell_of hi.head 0,cell_of hi.tail.head 0,cell_of hi.tail.tail.head 0,hi.tail.tail.tail.head,aO hi.head 0⟩
theorem Oa(pc OB NB MB:Nat)(L:aX)(s:af)(met:List Int)(x:Int)(hx:I64 x)(hlen:met.length<=1048576)(w:World)(h:Hp)(hi:In w h)(hl:qC pc OB NB MB L s met h):
  Calls Tryz.prog 79 #[.int .i64 x,ptr NB,ptr MB,ptr OB] w fun e w'=>e= .returned (.tuple #[])/\ ∃h',qC pc OB NB MB L s (qU met (s.now x)) h'/\aj h h' w w':=by
 obtain⟨mb,v,hv,hc,rfl,HS,hcore⟩:=hl
 have hi0:In w (ED pc OB NB MB mb v met hv++hc):=hi
 obtain⟨c3,c1,c2,c4,f3⟩:=nX hi0
 have dQ:=oG pc L s x w hc hi0.right hcore hx
 have HS':=Lib.hid HS
 have hU:Hid (aj (ED pc OB NB MB mb v met hv++hc) (ED pc OB NB MB mb v met hv++hc) w w):=Lib.hid (aj.refl hi0)
 by_cases hm:s.now x=0∨s.now x∈met
 ·have e1:qU met (s.now x)=met:=if_pos hm
  have hin:decide (s.now x∈0::met)=true:=decide_eq_true (by rcases hm with h|h<;>simp[h])
  rw[e1]
  have V6:=Lib.hid (fun(W:World) (hW:W.heap[mb]? =some (iG (0::met)))=>by have:=KH W mb (0::met) (s.now x) hW;rw[hin]at this;exact this)
  clear HS hm e1 hi c3 f3 hin hi0 c4 c2
  simp only[ptr,uY]at c1
  simp only[ptr]at dQ⊢
  generalize s.now x=y at*
  go_enter Tryz.func79,Tryz.ntmps79
  go_wp2_with(go_at_call 78;refine Calls.mono dQ ?_;rintro e w2 ⟨rfl,h2,WY,u2⟩;have U2:=Lib.hid (aj.dP hU.out u2);have C2:=Lib.hid WY;(obtain⟨d3,d1,d2,d4,g3⟩:=nX U2.out.au);have hlk:=V6.out _ d4;clear u2 WY dQ d1 d4)
  go_end0
  exact⟨rfl,_,⟨mb,v,hv,h2,rfl,HS'.out,C2.out⟩,U2.out⟩
 ·have hy0:s.now x≠0:=fun e=>hm (.inl e)
  have hym:s.now x∉met:=fun e=>hm (.inr e)
  have e1:qU met (s.now x)=met++[s.now x]:=if_neg hm
  have Vw:s.now x∉0::met:=by simp[hy0,hym]
  have hin:decide (s.now x∈0::met)=false:=decide_eq_false Vw
  rw[e1]
  have V6:=Lib.hid (fun(W:World) (hW:W.heap[mb]? =some (iG (0::met)))=>by have:=KH W mb (0::met) (s.now x) hW;rw[hin]at this;exact this)
  have HAd:Hid (∀(W:World) (hW:W.heap[mb]? =some (iG (0::met))),(Instr.mapUpdate 112 (.map (some mb)) (.int .i64 (s.now x)) (.bool true)).run Tryz.prog W= .ok () (W.putObj mb (iG (0::(met++[s.now x]))))):=Lib.hid (fun(W:World) hW=>KI W mb (0::met) (s.now x) hW Vw)
  obtain⟨ao,cap,rfl,hcap⟩:=HS.shape
  have V9:Hid (∀(v:Value) (hX:Hp),aK 3 1 v (met.length+1) (ints met++[.int .i64 (s.now x)]) hX->aK 3 1 v (met++[s.now x]).length (ints (met++[s.now x])) hX):=Lib.hid (fun v hX hh=>by
   have e:ints (met++[s.now x])=ints met++[.int .i64 (s.now x)]:=by simp[ints]
   rw[e,List.length_append]
   exact hh)
  clear HS hm e1 hi c3 f3 hin hi0 c4 c2 Vw hy0 hym
  simp only[ptr,uY]at c1
  simp only[ptr]at dQ⊢
  generalize s.now x=y at*
  go_enter Tryz.func79,Tryz.ntmps79
  go_wp2_with(first
   | (go_at_call 78;refine Calls.mono dQ ?_;rintro e w2 ⟨rfl,h2,WY,u2⟩;have U2:=Lib.hid (aj.dP hU.out u2);have C2:=Lib.hid WY;(obtain⟨d3,d1,d2,d4,g3⟩:=nX U2.out.au);have hlk:=V6.out _ d4;have had:=HAd.out _ d4;have U3:Hid (aj _ (ED pc OB NB MB mb (.slice ao met.length cap) (met++[y]) hv++h2) w (w2.putObj mb (iG (0::(met++[y]))))):=Lib.hid (aj.TD (l:=[(OB, .cells #[.slice ao met.length cap] 41 (0,0)),(NB, .cells #[uY pc] 113 (0,0)),(MB, .cells #[.map (some mb)] 112 (0,0))]) (r:=hv++h2) U2.out (iG (0::(met++[y]))));(obtain⟨z3,z1,z2,z4,q3⟩:=nX U3.out.au);clear u2 WY dQ d1 d4 z1 z4)
   | (at_builtin;(have U4:=Lib.hid (U3.out.skip' (.cells #[.int .i64 y] 3 (0,0))));(have hsz:(w2.putObj mb (iG (0::(met++[y])))).heap.size=w2.heap.size:=by simp[World.putObj]);(have HN:=Lib.hid (kF (news:=[.int .i64 y]) (w:=(w2.putObj mb (iG (0::(met++[y])))).alloc (.cells #[.int .i64 y] 3 (0,0))) (b:=w2.heap.size) (T:=3) (fr:=(0,0)) (aV hsz.symm)));refine cO rfl (.tmp 14) (.tmp 16) 41 rfl 3 1 8 (.int .i64 0) Tryz.underlying41 Tryz.kG rfl (by decide) (.slice ao met.length cap) met.length (ints met) hv rfl HS'.out U4.out.au.tail.tail.tail.tail.left ⟨w2.heap.size,0,none⟩ 1 1 [.int .i64 y] rfl HN.out rfl (by intro u hu;simp at hu;subst hu;rfl) (Or.inl (by decide)) (by unfold maxLen;omega) (by omega) ?_;intro v' w7 hX' hS' qG;(obtain⟨VS,cap2,rfl,hcap2⟩:=hS'.shape);have S7:=Lib.hid (V9.out _ _ hS');have U7:=Lib.hid (aj.dP (x:=[(OB, .cells #[.slice ao met.length cap] 41 (0,0)),(NB, .cells #[uY pc] 113 (0,0)),(MB, .cells #[.map (some mb)] 112 (0,0)),(mb,iG (0::(met++[y])))]) U4.out (qG.beside U4.out.au.tail.tail.tail.tail));have y3:w7.cell? ⟨OB,0,none⟩=some (.slice ao met.length cap):=cell_of U7.out.au.head 0;have fy:=aO (i:=0) U7.out.au.head;clear hS' qG))
  go_end0
  exact⟨rfl,_,⟨mb,_,hX',h2,rfl,S7.out,C2.out⟩,U7.out.store1 0 _⟩
end Go.Proofs.YtibemcgdmembeaaGreat
namespace Go.Proofs.YtibemcgdmembeaaGreat
open Go.RowKit
def qE(rf:Int->List Int):Nat->Nat->List Int->List Int
 |0,_,met=>met
 |f+1,n,met=>match met[n]? with
  |none=>met
  |some a=>qE rf f (n+1) (mP met (rf a))
def af.gV(s:af)(a:Int):List Int:=(List.range (s.bQ a)).map fun(k:Nat)=>s.now (aQ s.ws a k)
def af.oQ(s:af)(F:Nat):List Int:=qE s.gV F 0 (mP [] (s.t.map s.now))
structure yt(s:af)(M:Nat)(Ok:List Int->Prop):Prop where
 nil:Ok []
 tbl: ∀met x,x∈s.t->Ok met->Ok (qU met (s.now x))
 ref: ∀met a (k:Nat),Ok met->a∈met->k<s.bQ a->Ok (qU met (s.now (aQ s.ws a k)))
 len: ∀met,Ok met->met.length<=M
theorem Qo{met:List Int}{x:Int}{n:Nat}{a:Int}(h:met[n]? =some a):(qU met x)[n]? =some a:=by
 unfold qU
 split
 ·exact h
 ·rw[List.getElem?_append_left (List.getElem?_eq_some_iff.1 h).1]
  exact h
theorem Qp(w:World)(f:Value)(hf:f.oneCell'=true){b:Nat}{o:Value}{T:TypeId}{fr:Nat×Nat}(h:w.heap[b]? =some (.cells #[o] T (0,0))):(store ⟨b,0,none⟩ f).run Tryz.prog w= .ok () (w.setCell ⟨b,0,none⟩ f):=by
 rw[run_store _ _ _ _ _ hf]
 have e1:w.cell? ⟨b,0,none⟩=some o:=cell_of h 0
 have e2:w.frozen? ⟨b,0,none⟩=false:=aO h 0
 rw[e1,e2]
 rfl
theorem xg{pc OB NB MB:Nat}{L:aX}{s:af}{met:List Int}{h:Hp}(hl:qC pc OB NB MB L s met h): ∃mb v hv hc,h=ED pc OB NB MB mb v met hv++hc/\aK 3 1 v met.length (ints met) hv/\ah pc L s hc:=hl
theorem yF(pc:Nat)(L:aX)(s:af)(M:Nat)(hM:M<=1000000)(Ok:List Int->Prop)(hO:yt s M Ok)(w:World)(h:Hp)(hi:In w h)(hc:ah pc L s h):
  Calls Tryz.prog 38 #[ptr pc] w fun e w'=> ∃v h1 h2,e= .returned v/\aK 3 1 v (s.oQ (M+1)).length (ints (s.oQ (M+1))) h1/\ah pc L s h2/\aj h (h1++h2) w w':=by
 have WZ:=(ah.ptrs (x:=[]) hc hi).2.2.2.2.2
 obtain⟨t64,tI,_,_⟩:=hc.facts
 have hmap:(w.alloc (.map #[] 0)).heap[w.heap.size]? =some (iG []):=aV rfl
 have hins:=KI (w.alloc (.map #[] 0)) w.heap.size [] 0 hmap (by simp)
 simp only[List.nil_append]at hins
 have hmk:Sem.run Tryz.prog (Instr.makeMap 112 none) w= .ok (.map (some w.heap.size)) (w.alloc (.map #[] 0)):=rfl
 have hs2:(((((w.alloc (.map #[] 0)).putObj w.heap.size (iG [0])).alloc (.cells #[.map (some w.heap.size)] 112 (0,0))).alloc (.cells #[.slice none 0 0] 41 (0,0)))).heap.size=w.heap.size+1+1+1:=by simp[World.putObj]
 have hst2:=(fun(W:World) (hW:W.heap.size=w.heap.size+1+1+1)=>Qp (W.alloc (.cells #[.nilFunc] 113 (0,0))) (uY pc) rfl (b:=w.heap.size+1+1+1) (o:= .nilFunc) (T:=113) (fr:=(0,0)) (aV hW.symm)) _ hs2
 have A0:aj h ((w.heap.size, .map #[] 0)::h) w (w.alloc (.map #[] 0)):=(aj.refl hi).alloc' _
 have A1:aj h ((w.heap.size,iG [0])::h) w ((w.alloc (.map #[] 0)).putObj w.heap.size (iG [0])):=aj.TD (l:=[]) A0 _
 have A2:=((A1.alloc' (.cells #[.map (some w.heap.size)] 112 (0,0))).alloc' (.cells #[.slice none 0 0] 41 (0,0))).alloc' (.cells #[uY pc] 113 (0,0))
 have hsA:((w.alloc (.map #[] 0)).putObj w.heap.size (iG [0])).heap.size=w.heap.size+1:=by simp[World.putObj]
 have hsB:(((w.alloc (.map #[] 0)).putObj w.heap.size (iG [0])).alloc (.cells #[.map (some w.heap.size)] 112 (0,0))).heap.size=w.heap.size+1+1:=by simp[World.putObj]
 rw[hs2,hsB,hsA]at A2
 have Yw:=(ah.ptrs (x:=[_,_,_,_]) hc A2.au).2.2.2.2.2
 have HL:Hid (∃H,qC pc (w.heap.size+1+1) (w.heap.size+1+1+1) (w.heap.size+1) L s [] H/\aj h H w (((((w.alloc (.map #[] 0)).putObj w.heap.size (iG [0])).alloc (.cells #[.map (some w.heap.size)] 112 (0,0))).alloc (.cells #[.slice none 0 0] 41 (0,0))).alloc (.cells #[uY pc] 113 (0,0)))):=Lib.hid ⟨_,⟨w.heap.size, .slice none 0 0,[],h,rfl,aK.nil _ _,hc⟩,A2.perm (List.Perm.refl _) (List.Perm.swap _ _ _)⟩
 have hpl:pc<w.heap.size:=World.block_lt_of_cell? _ _ WZ
 have Y3:=Lib.hid (fun NB MB OB met x W H (hW:In W H) (hl:qC pc OB NB MB L s met H) (hx:I64 x) (hm:met.length<=1048576)=>Oa pc OB NB MB L s met x hx hm W H hW hl)
 have PD:=Lib.hid (fun W h (hW:In W h) (hc:ah pc L s h)=>xH pc L s W h hW hc)
 have uG:pc≠w.heap.size+1+1+1:=by omega
 clear A0 A1 A2 hsA hsB hs2 hpl uG WZ
 obtain⟨H0,l0,u0⟩:=HL.out
 obtain⟨mb0,v0,hv0,hc0,e0,S0,C0⟩:=xg l0
 have hall:=PD.out _ hc0 (by have:=u0.au;rw[e0]at this;exact this.right) C0
 have TZ:=Lib.hid u0
 have HL0:=Lib.hid l0
 clear u0 l0 e0 S0 C0 HL PD
 have HTl:=Lib.hid (fun j (hj:j<s.t.length)=>tI (s.t.getD j 0) (Qe hj))
 have HTm:=Lib.hid (fun j (hj:j<s.t.length)=>(Qe hj:s.t.getD j 0∈s.t))
 have HO:=Lib.hid hO
 obtain⟨R1,hR1⟩: ∃R1,R1=mP [] (s.t.map s.now):=⟨_,rfl⟩
 have HR1:Hid (R1=mP [] ((s.t.map s.now).drop 0)):=Lib.hid hR1
 have HLv:Hid (s.oQ (M+1)=qE s.gV (M+1) 0 R1):=Lib.hid (by rw[hR1];rfl)
 clear hR1 tI hO hc hi
 simp only[ptr,uY]at*
 go_enter Tryz.func38,Tryz.ntmps38
 go_wp2_with(go_at_call 65;refine Calls.mono hall ?_;rintro e w7 ⟨v7,h7,rfl,s7,u7⟩;have Vd:=Lib.hid s7;have U7:=Lib.hid (TZ.out.more u7);obtain⟨Xx,QU,rfl,PE⟩:=s7.shape;clear s7 u7 hall)
 clear hins hmk hst2 hmap Yw
 generalize w.heap.size+1+1+1=NB at*
 generalize w.heap.size+1+1=OB at*
 generalize w.heap.size+1=MB at*
 have H1:Hid (∃met H,R1=mP met ((s.t.map s.now).drop 0)/\Ok met/\qC pc OB NB MB L s met H/\aj h (h7++H) w w7):=Lib.hid ⟨[],H0,HR1.out,HO.out.nil,HL0.out,U7.out⟩
 clear HR1 HL0 U7 TZ
 go_loopw [24] (fun i wr=> ∃j:Nat,j<=s.t.length/\i= .int .i64 j/\Hid (∃met H,R1=mP met ((s.t.map s.now).drop j)/\Ok met/\qC pc OB NB MB L s met H/\aj h (h7++H) w wr)) (fun i _=>s.t.length-(intOf i).toNat)
 case atStart=>exact⟨0,by omega,rfl,H1⟩
 case round=>
  obtain⟨j,hj,rfl,HJ⟩:=hrel
  obtain⟨met,H,r1,r2,r3,r4⟩:=HJ.out
  by_cases hjl:j<s.t.length
  ·obtain⟨gb,off,rfl,hcj⟩:=aK.nH (kd:= .i64) Vd.out r4.au.left hjl
   have hml:=HO.out.len met r2
   have hmt:=Y3.out NB MB OB met (s.t.getD j 0) wr H r4.au.right r3 (HTl.out j hjl) (by omega)
   have ed:(s.t.map s.now).drop j=s.now (s.t.getD j 0)::(s.t.map s.now).drop (j+1):=by
    rw[List.drop_eq_getElem_cons (by simpa using hjl)]
    simp[List.getD,hjl]
   rw[ed]at r1
   have HR:Hid (R1=mP (qU met (s.now (s.t.getD j 0))) ((s.t.map s.now).drop (j+1))):=Lib.hid r1
   have XZ:=Lib.hid (HO.out.tbl met _ (HTm.out j hjl) r2)
   have HU:=Lib.hid r4
   clear HJ r1 r2 r3 r4 ed
   generalize qU met (s.now (s.t.getD j 0))=Aa at*
   generalize s.t.getD j 0=x at*
   go_wp2_with(go_at_call 79;refine Calls.mono hmt ?_;rintro e w5 ⟨rfl,h5,l5,u5⟩;have U5:=Lib.hid (aj.fM HU.out u5);have L5:=Lib.hid l5;clear u5 l5 hmt)
   go_roundw
   case rel=>exact⟨j+1,by omega,by go_num,Lib.hid ⟨Aa,h5,HR.out,XZ.out,L5.out,U5.out⟩⟩
   case measure=>simp[intOf];omega
  ·rw[List.drop_of_length_le (by simp;omega)]at r1
   have e1:R1=met:=r1
   subst e1
   have HX:=Lib.hid (r4.forget (List.sublist_append_right _ _))
   have H2:Hid (∃met f H,s.oQ (M+1)=qE s.gV f 0 met/\f+0=M+1/\0<=met.length/\Ok met/\qC pc OB NB MB L s met H/\aj h H w wr):=Lib.hid ⟨R1,M+1,H,HLv.out,rfl,by omega,r2,r3,HX.out⟩
   clear HJ r1 r2 r3 r4 HLv HX HTl HTm H1
   have NJ:=Lib.hid (fun a W h (hW:In W h) (hc:ah pc L s h)=>kY pc L s a W h hW hc)
   have VM:=Lib.hid (fun a k W h (hW:In W h) (hc:ah pc L s h)=>uI pc L s a k W h hW hc)
   have HrN:Hid (∀a (k:Nat),k<s.bQ a->(s.gV a).drop k=s.now (aQ s.ws a k)::(s.gV a).drop (k+1)):=Lib.hid (fun a k hk=>by
    unfold af.gV
    rw[List.drop_eq_getElem_cons (by simpa using hk)]
    simp)
   have HrL:Hid (∀a,(s.gV a).length=s.bQ a):=Lib.hid (fun a=>by unfold af.gV;simp)
   have HrI:Hid (∀a k,I64 (aQ s.ws a k)):=Lib.hid (fun a k=>I64.wrap _)
   have Y4:=Lib.hid (fun met x W H (hW:In W H) (hl:qC pc OB NB MB L s met H) (hx:I64 x) (hm:met.length<=1048576)=>Y3.out NB MB OB met x W H hW hl hx hm)
   clear Y3
   generalize Vx:s.oQ (M+1)=LV at*
   go_wp2
   go_loopw [9] (fun i wr=> ∃n:Nat,n<=M/\i= .int .i64 n/\Hid (∃met f H,LV=qE s.gV f n met/\f+n=M+1/\n<=met.length/\Ok met/\qC pc OB NB MB L s met H/\aj h H w wr)) (fun i _=>M+1-(intOf i).toNat)
   case atStart=>exact⟨0,by omega,rfl,H2⟩
   case round=>
    obtain⟨n,hn,rfl,HJ⟩:=hrel
    obtain⟨met,f,H,r1,r2,r3,r4,r5,r6⟩:=HJ.out
    have hml:=HO.out.len met r4
    obtain⟨mb,v,hv,hc,rfl,HS,hcore⟩:=xg r5
    obtain⟨ao,cap,rfl,hcap⟩:=HS.shape
    obtain⟨c3,_,_,_,_⟩:=nX r6.au
    by_cases hnl:n<met.length
    ·cases f with
     |zero=>omega
     |succ f=>
      obtain⟨gb,off,rfl,hcn⟩:=aK.nH (kd:= .i64) HS (r6.au.left.tail.tail.tail.tail) hnl
      have hma:met[n]? =some (met.getD n 0):=by simp[List.getD,hnl]
      have e1:LV=qE s.gV f (n+1) (mP met (s.gV (met.getD n 0))):=by rw[r1,qE,hma]
      generalize hA:met.getD n 0=a at*
      have hhd:=NJ.out a wr hc r6.au.right hcore
      have HE:=Lib.hid e1
      have hG:(ag s.ws a).Good:=dU _
      obtain⟨g1,g2,g3,g4,_⟩:=hG
      obtain⟨p,hp⟩: ∃p:Nat,(ag s.ws a).ptrs=p:=⟨(ag s.ws a).ptrs.toNat,by omega⟩
      have hpp:s.bQ a=p:=by unfold af.bQ;rw[hp];rfl
      have Y5:p<=64:=by omega
      obtain⟨R2,hR2⟩: ∃R2,R2=mP met (s.gV a):=⟨_,rfl⟩
      rw[<-hR2]at HE
      have HR2:Hid (R2=mP met ((s.gV a).drop 0)):=Lib.hid hR2
      have HOm:=Lib.hid r4
      have XJ:=Lib.hid HS
      have XK:=Lib.hid r6
      have HMa:=Lib.hid hma
      have T_:=Lib.hid hpp
      have hr2:f+1+n=M+1:=r2
      clear hR2 e1 r1 r4 r5 r6 HS hcore hma hpp HJ r2
      generalize ag s.ws a=Hh at*
      obtain⟨x1,x2,x3,x4,x5,x6,x7⟩:=Hh
      simp only at hp g1 g2 g3 g4
      subst hp
      simp only[aF]at hhd
      have hF:=fun W=>NU x1 p x3 x4 x5 x6 x7 W
      go_wp2_with(go_at_call 59;refine Calls.mono hhd ?_;rintro e w5 ⟨rfl,h5,cc5,u5⟩;have hf5:=hF w5;have U5:=Lib.hid (aj.dP XK.out u5);have C5:=Lib.hid cc5;clear u5 cc5 hhd)
      have H3:Hid (∃met' H',R2=mP met' ((s.gV a).drop 0)/\met'[n]? =some a/\Ok met'/\qC pc OB NB MB L s met' H'/\aj h H' w w5):=Lib.hid ⟨met,_,HR2.out,HMa.out,HOm.out,⟨mb,_,hv,h5,rfl,XJ.out,C5.out⟩,U5.out⟩
      clear HR2 HMa HOm XJ C5 U5 XK hF c3 hcn
      go_loopw [45] (fun i wr=> ∃k:Nat,k<=p/\i= .int .i64 k/\Hid (∃met' H',R2=mP met' ((s.gV a).drop k)/\met'[n]? =some a/\Ok met'/\qC pc OB NB MB L s met' H'/\aj h H' w wr)) (fun i _=>p-(intOf i).toNat)
      case atStart=>exact⟨0,by omega,rfl,H3⟩
      case round=>
       obtain⟨k,hk,rfl,HK⟩:=hrel
       obtain⟨Aa,H2',q1,q2,q3,q4,q5⟩:=HK.out
       have hml2:=HO.out.len Aa q3
       by_cases hkl:k<p
       ·obtain⟨VG,v2,hv2,hc2,rfl,HS2,Qq⟩:=xg q4
        obtain⟨VS,cap2,rfl,hcap2⟩:=HS2.shape
        obtain⟨d3,_,_,_,_⟩:=nX q5.au
        have hn2:n<Aa.length:=(List.getElem?_eq_some_iff.1 q2).1
        obtain⟨gb2,off2,rfl,Y6⟩:=aK.nH (kd:= .i64) HS2 (q5.au.left.tail.tail.tail.tail) hn2
        have hga:Aa.getD n 0=a:=by rw[List.getD_eq_getElem?_getD,q2];rfl
        rw[hga]at Y6
        rw[HrN.out a k (by rw[T_.out];exact hkl)]at q1
        have HQ1:Hid (R2=mP (qU Aa (s.now (aQ s.ws a k))) ((s.gV a).drop (k+1))):=Lib.hid q1
        have HQ2:=Lib.hid (Qo (x:=s.now (aQ s.ws a k)) q2)
        have HQ3:=Lib.hid (HO.out.ref Aa a k q3 (List.mem_of_getElem? q2) (by rw[T_.out];exact hkl))
        have hrf:=VM.out a k wr hc2 q5.au.right Qq
        have Ah:=Lib.hid q5
        have V7:=Lib.hid HS2
        have yD:=Lib.hid (fun W H (hW:In W H) (hl:qC pc OB NB MB L s Aa H)=>Y4.out Aa (aQ s.ws a k) W H hW hl (HrI.out a k) (by omega))
        clear q1 q2 q3 q4 q5 HS2 Qq HK hga
        generalize qU Aa (s.now (aQ s.ws a k))=Y7 at*
        generalize aQ s.ws a k=rr at*
        go_wp2_with(first
         | (go_at_call 61;refine Calls.mono hrf ?_;rintro e w6 ⟨rfl,h6,cc6,u6⟩;have U6:=Lib.hid (aj.dP Ah.out u6);have L6:Hid (qC pc OB NB MB L s Aa _):=Lib.hid ⟨VG,_,hv2,h6,rfl,V7.out,cc6⟩;clear u6 cc6 hrf)
         | (go_at_call 79;refine Calls.mono (yD.out _ _ U6.out.au L6.out) ?_;rintro e w7 ⟨rfl,h7',l7,u7⟩;have U7:=Lib.hid (U6.out.trans u7);have L7:=Lib.hid l7;clear u7 l7))
        go_roundw
        case rel=>exact⟨k+1,by omega,by go_num,Lib.hid ⟨Y7,h7',HQ1.out,HQ2.out,HQ3.out,L7.out,U7.out⟩⟩
        case measure=>simp[intOf];omega
       ·rw[List.drop_of_length_le (by rw[HrL.out,T_.out];omega)]at q1
        have e2:R2=Aa:=q1
        subst e2
        have hn2:n<R2.length:=(List.getElem?_eq_some_iff.1 q2).1
        have Q3:=Lib.hid q3
        have Q4:=Lib.hid q4
        have Q5:=Lib.hid q5
        clear q1 q2 q3 q4 q5 HK H3
        go_wp2
        go_roundw
        case rel=>exact⟨n+1,by omega,by go_num,Lib.hid ⟨R2,f,H2',HE.out,by omega,by omega,Q3.out,Q4.out,Q5.out⟩⟩
        case measure=>simp[intOf];omega
    ·have e1:LV=met:=by
      rw[r1]
      cases f with
      |zero=>rfl
      |succ f=>rw[qE,List.getElem?_eq_none (by omega)]
     have W9:=fun W=>uB (.slice ao met.length cap) met.length met W hv HS (by omega)
     have XK:=Lib.hid r6
     have HCm:=Lib.hid hcore
     have HEm:=Lib.hid e1
     clear HJ r1 r4 r5 r6 HS hcore e1 r2
     go_wp2_with(go_at_call 63;refine Calls.mono (W9 _) ?_;rintro e w6 ⟨v6,rfl,s6,rfl⟩)
     go_ret
     refine⟨v6,hv,hc,rfl,by rw[Vx,HEm.out];exact s6,HCm.out, ?_⟩
     exact XK.out.forget (List.sublist_append_right [_,_,_,_] _)
end Go.Proofs.YtibemcgdmembeaaGreat
namespace Go.Proofs.YtibemcgdmembeaaGreat
open Go.RowKit
def jX:List Int->Int->Int
 |[],_=>0
 |y::l,x=>if y=x then 1 else if jX l x=0 then 0 else jX l x+1
theorem Ir(l:List Int)(x:Int):0<=jX l x/\jX l x<=l.length:=by
 induction l with
 |nil=>simp[jX]
 |cons y l ih=>
  unfold jX
  simp only[List.length_cons]
  split
  ·omega
  ·split<;>omega
theorem Iu: ∀(l:List Int) (x:Int) (k:Nat),(∀i,i<k->l.getD i 0≠x)->k<l.length->l.getD k 0=x->jX l x=(k:Int)+1
 |[],_,k,_,h,_=>by simp at h
 |y::l,x,0,_,_,h=>by
  simp only[List.getD_cons_zero]at h
  simp[jX,h]
 |y::l,x,k+1,hn,hk,h=>by
  have h0:y≠x:=hn 0 (by omega)
  have ih:=Iu l x k (fun i hi=>by have:=hn (i+1) (by omega);simpa using this) (by simpa using hk) (by simpa using h)
  rw[jX,if_neg h0,ih,if_neg (by omega)]
  omega
theorem EE: ∀(l:List Int) (x:Int),(∀i,i<l.length->l.getD i 0≠x)->jX l x=0
 |[],_,_=>rfl
 |y::l,x,hn=>by
  have h0:y≠x:=hn 0 (by simp)
  have ih:=EE l x (fun i hi=>by have:=hn (i+1) (by simpa using hi);simpa using this)
  rw[jX,if_neg h0,ih]
  rfl
theorem FP(l:List Int)(n:Nat)(ao:Option Addr)(cap:Nat)(x:Int)(w:World)(h:Hp)(hi:In w h)(hs:aK 3 1 (.slice ao n cap) n (ints l) h)(hn:n<=1048576):
  Calls Tryz.prog 111 #[.slice ao n cap, .int .i64 x] w fun e w'=>e= .returned (.int .i64 (jX l x-1))/\w'=w:=by
 have hl:l.length=n:=by have:=hs.1;simpa using this
 have hat:Hid (∀k,k<n-> ∃g off,ao=some ⟨g,off,none⟩/\w.cell? ⟨g,off+k,none⟩=some (.int .i64 (l.getD k 0))):=Lib.hid (fun k hk=>by
  have:=aK.nH (kd:= .i64) hs hi hk
  obtain⟨g,off,h1,h2⟩:=this
  exact⟨g,off,h1,h2⟩)
 have HL:=Lib.hid hl
 have hstart:Hid (∀i,i<0->l.getD i 0≠x):=Lib.hid (by omega)
 clear hs hi hl
 go_enter Tryz.func111,Tryz.ntmps111
 go_wp2
 go_loopw [8] (fun i wr=> ∃k:Nat,k<=n/\i= .int .i64 k/\wr=w/\Hid (∀i,i<k->l.getD i 0≠x)) (fun i _=>n-(intOf i).toNat)
 case atStart=>exact⟨0,by omega,rfl,rfl,hstart⟩
 case round=>
  obtain⟨k,hk,rfl,rfl,HK⟩:=hrel
  by_cases hkl:k<n
  ·obtain⟨g,off,rfl,hc⟩:=hat.out k hkl
   by_cases he:x=l.getD k 0
   ·have hr:=Lib.hid (Iu l x k HK.out (by rw[HL.out];exact hkl) he.symm)
    rw[<-he]at hc
    clear he
    go_wp2
    go_ret
    refine⟨?_,by first|rfl|trivial⟩
    have e1:(k:Int)+1-1=k:=by omega
    rw[hr.out,e1]
    rfl
   ·have hr:Hid (∀i,i<k+1->l.getD i 0≠x):=Lib.hid (fun i hi=>by
     rcases Nat.lt_succ_iff_lt_or_eq.1 hi with h|h
     ·exact HK.out i h
     ·rw[h];exact fun e=>he e.symm)
    have hb:decide (x=l.getD k 0)=false:=decide_eq_false he
    generalize l.getD k 0=y at*
    go_wp2
    go_roundw
    case rel=>exact⟨k+1,by omega,by go_num,by first|rfl|trivial,hr⟩
    case measure=>simp[intOf];omega
  ·have e0:k=n:=by omega
   have hr:=Lib.hid (EE l x (fun i hi=>HK.out i (by rw[HL.out]at hi;omega)))
   go_wp2
   go_ret
   refine⟨?_,by first|rfl|trivial⟩
   rw[hr.out]
   rfl
theorem Iw(pc:Nat)(L:aX)(s:af)(l:List Int)(n:Nat)(ao:Option Addr)(cap:Nat)(x:Int)(w:World)(h hl:Hp)(hi:In w (hl++h))(hc:ah pc L s h)(hs:aK 3 1 (.slice ao n cap) n (ints l) hl)(hn:n<=1048576)(hx:I64 x):
  Calls Tryz.prog 60 #[ptr pc, .slice ao n cap, .int .i64 x] w fun e w'=>e= .returned (.int .i64 (jX l (s.now x)))/\ ∃h',ah pc L s h'/\aj h h' w w':=by
 have dQ:=oG pc L s x w h hi.right hc hx
 have hll:l.length=n:=by have:=hs.1;simpa using this
 have hnb:=Ir l (s.now x)
 have hix:=fun W (hW:In W hl)=>FP l n ao cap (s.now x) W hl hW hs hn
 have HK:Hid (∀h' W,aj h h' w W->In W hl):=Lib.hid (fun h' W u=>(In.kept u (hi.perm List.perm_append_comm)).right)
 have w1:wrap64 (jX l (s.now x))=jX l (s.now x):=pq (I64.small (by omega) (by omega))
 clear hll hs hi hc
 generalize jX l (s.now x)=r at*
 generalize s.now x=y at*
 simp only[ptr]at*
 go_enter Tryz.func60,Tryz.ntmps60
 go_wp2_with(first
  | (go_at_call 78;refine Calls.mono dQ ?_;rintro e w5 ⟨rfl,h5,c5,u5⟩;have U5:=Lib.hid u5;have C5:=Lib.hid c5;clear u5 c5 dQ)
  | (go_at_call 111;refine Calls.mono (hix _ (HK.out _ _ U5.out)) ?_;rintro e w6 ⟨rfl,rfl⟩))
 go_ret
 exact⟨by simp[w1],_,C5.out,U5.out⟩
end Go.Proofs.YtibemcgdmembeaaGreat
namespace Go.Proofs.YtibemcgdmembeaaGreat
open Go.RowKit
theorem Tryz.Ob:(Tryz.prog.info? 79).map (fun i=>(i.zero,i.size,i.bytes))=some (some (.agg #[.slice none 0 0, .slice none 0 0]),2,48):=by kernel_rfl
def rY:Value->Value
 | .slice (some a) n _=> .slice (some a) n n
 |v=>v
theorem aK.rY{T:TypeId}{size:Nat}{v:Value}{n:Nat}{xs:List Value}{h:Hp}(hs:aK T size v n xs h):aK T size (rY v) n xs h:=by
 rcases hs.2 with⟨rfl,h0,h1⟩|⟨g,pre,post,cap,rfl,h2,hc,hc2,hc3⟩
 ·exact hs
 ·exact⟨hs.1, .inr ⟨g,pre,post,n,rfl,h2,Nat.le_refl _,by rw[hs.1];omega,by omega⟩⟩
theorem Iy{T:TypeId}{size:Nat}(v:Value)(n:Nat)(xs:List Value)(w:World)(h:Hp)(hs:aK T size v n xs h)(hn:n<=1048576):
  Calls Tryz.prog 63 #[v] w fun e w'=>e= .returned (rY v)/\w'=w:=by
 rcases hs.2 with⟨rfl,rfl,h1⟩|⟨g,pre,post,cap,rfl,h2,hc,hc2,hc3⟩
 ·clear hs
  go_enter Tryz.func63,Tryz.ntmps63
  go_wp2
  go_ret
  exact⟨rfl,by first|rfl|trivial⟩
 ·clear hs h2 hc2 hc3
  generalize pre.length=off at*
  go_enter Tryz.func63,Tryz.ntmps63
  go_wp2
  go_ret
  exact⟨rfl,by first|rfl|trivial⟩
theorem Qr{T:TypeId}{size:Nat}(v:Value)(n:Nat)(xs:List Value)(w:World)(h:Hp)(hs:aK T size v n xs h)(hn:n<=1048576):
  Calls Tryz.prog 64 #[v] w fun e w'=>e= .returned (rY v)/\w'=w:=by
 rcases hs.2 with⟨rfl,rfl,h1⟩|⟨g,pre,post,cap,rfl,h2,hc,hc2,hc3⟩
 ·clear hs
  go_enter Tryz.func64,Tryz.ntmps64
  go_wp2
  go_ret
  exact⟨rfl,by first|rfl|trivial⟩
 ·clear hs h2 hc2 hc3
  generalize pre.length=off at*
  go_enter Tryz.func64,Tryz.ntmps64
  go_wp2
  go_ret
  exact⟨rfl,by first|rfl|trivial⟩
theorem Oc{T:TypeId}{size:Nat}(v:Value)(n:Nat)(xs:List Value)(w:World)(h:Hp)(hs:aK T size v n xs h)(hn:n<=1048576):
  Calls Tryz.prog 66 #[v] w fun e w'=>e= .returned (rY v)/\w'=w:=by
 rcases hs.2 with⟨rfl,rfl,h1⟩|⟨g,pre,post,cap,rfl,h2,hc,hc2,hc3⟩
 ·clear hs
  go_enter Tryz.func66,Tryz.ntmps66
  go_wp2
  go_ret
  exact⟨rfl,by first|rfl|trivial⟩
 ·clear hs h2 hc2 hc3
  generalize pre.length=off at*
  go_enter Tryz.func66,Tryz.ntmps66
  go_wp2
  go_ret
  exact⟨rfl,by first|rfl|trivial⟩
theorem Ko(pc:Nat)(L:aX)(s:af)(i n:Int)(w:World)(h:Hp)(hi:In w h)(hc:ah pc L s h):
  Calls Tryz.prog 62 #[ptr L.pa, .int .i64 i, .int .i64 n] w fun e w'=>
   e= .returned (.tuple #[.int .u64 (oU s.ws (place i n)), .int .i64 (nC s.ws.length (place i n) 1)])/\ ∃h',ah pc L s h'/\aj h h' w w':=by
 obtain⟨v,ha,hy,ho,hr,hg,ht,hw,rfl,ca,cy,co,cr,cg,ct,cw⟩:=hc
 refine Calls.mono (yJ L.pa s.ws i n w ha (In.arena (x:=[]) hi) ca) ?_
 rintro e w1 ⟨rfl,ha',ca',u1⟩
 exact⟨rfl,_,⟨v,ha',hy,ho,hr,hg,ht,hw,rfl,ca',cy,co,cr,cg,ct,cw⟩,aj.arena (x:=[]) (aj.refl hi) u1⟩
abbrev Uc(X:Hp)(xB oB:Nat)(H:Array Value)(vp vs:Value):Hp:=X++[(xB, .cells H 92 (0,0)),(oB, .cells #[vp,vs] 79 (0,0))]
abbrev jy(X:Hp)(xB oB:Nat)(H:Array Value)(vp vs:Value)(hp hs:Hp):Hp:=Uc X xB oB H vp vs++(hp++hs)
section
variable{X hp hs hp' hs' h' h0:Hp}{xB oB:Nat}{H:Array Value}{vp vs:Value}{w w0 w':World}
theorem xh(hi:In w (jy X xB oB H vp vs hp hs++h')):w.heap[oB]? =some (.cells #[vp,vs] 79 (0,0)):=hi.mem (by simp)
theorem SH(hi:In w (jy X xB oB H vp vs hp hs++h')):w.heap[xB]? =some (.cells H 92 (0,0)):=hi.mem (by simp)
theorem W_(hi:In w (jy X xB oB H vp vs hp hs++h')):In w hp:=hi.left.right.left
theorem Xa(hi:In w (jy X xB oB H vp vs hp hs++h')):In w hs:=hi.left.right.right
theorem pull(A B C:Hp):(A++(B++C)).Perm (B++(A++C)):=by
 rw[<-List.append_assoc,<-List.append_assoc]
 exact List.Perm.append_right _ List.perm_append_comm
theorem Iz(A:Hp):((A++(hp++hs))++h').Perm (hp++(A++(hs++h'))):=by
 rw[List.append_assoc,List.append_assoc]
 exact pull A hp (hs++h')
theorem IA(A:Hp):((A++(hp++hs))++h').Perm (hs++(A++(hp++h'))):=by
 rw[List.append_assoc,List.append_assoc]
 exact((pull hp hs h').append_left A).trans (pull A hs (hp++h'))
theorem Y8(U:aj h0 (jy X xB oB H vp vs hp hs++h') w0 w)(u:aj hp hp' w w'):aj h0 (jy X xB oB H vp vs hp' hs++h') w0 w':=by
 have U1:=U.perm (List.Perm.refl _) (Iz _)
 exact(U1.trans (u.beside U1.au)).perm (List.Perm.refl _) (Iz _).symm
theorem Y9(U:aj h0 (jy X xB oB H vp vs hp hs++h') w0 w)(u:aj hs hs' w w'):aj h0 (jy X xB oB H vp vs hp hs'++h') w0 w':=by
 have U1:=U.perm (List.Perm.refl _) (IA _)
 exact(U1.trans (u.beside U1.au)).perm (List.Perm.refl _) (IA _).symm
theorem SI(U:aj h0 (jy X xB oB H vp vs hp hs++h') w0 w)(v:Value):aj h0 (jy X xB oB H v vs hp hs++h') w0 (w.setCell ⟨oB,0,none⟩ v):=by
 have e: ∀v,jy X xB oB H v vs hp hs++h'=(X++[(xB, .cells H 92 (0,0))])++(oB, .cells #[v,vs] 79 (0,0))::((hp++hs)++h'):=fun v=>by simp
 rw[e]at U⊢
 exact U.store' 0 v
theorem SK(U:aj h0 (jy X xB oB H vp vs hp hs++h') w0 w)(v:Value):aj h0 (jy X xB oB H vp v hp hs++h') w0 (w.setCell ⟨oB,1,none⟩ v):=by
 have e: ∀v,jy X xB oB H vp v hp hs++h'=(X++[(xB, .cells H 92 (0,0))])++(oB, .cells #[vp,v] 79 (0,0))::((hp++hs)++h'):=fun v=>by simp
 rw[e]at U⊢
 exact U.store' 1 v
theorem SN{hl Y:Hp}(hi:In w (jy (hl++Y) xB oB H vp vs hp hs++h')):In w (hl++h'):=by
 refine hi.sub (List.Sublist.append ?_ (List.Sublist.refl _))
 unfold jy Uc
 rw[List.append_assoc,List.append_assoc]
 exact List.sublist_append_left _ _
theorem Vy{hl hn hn' B:Hp}(U:aj h0 (jy (hl++(hn++B)) xB oB H vp vs hp hs++h') w0 w)(u:aj hn hn' w w'):aj h0 ((hl++(hn'++(B++(hp++hs))))++h') w0 w':=by
 have p: ∀hn:Hp,(jy (hl++(hn++B)) xB oB H vp vs hp hs++h').Perm (hn++(hl++(B++([(xB, .cells H 92 (0,0)),(oB, .cells #[vp,vs] 79 (0,0))]++((hp++hs)++h'))))):=fun hn=>by
  have e:jy (hl++(hn++B)) xB oB H vp vs hp hs++h'=hl++(hn++(B++([(xB, .cells H 92 (0,0)),(oB, .cells #[vp,vs] 79 (0,0))]++((hp++hs)++h')))):=by simp
  rw[e]
  exact pull _ _ _
 have U1:=U.perm (List.Perm.refl _) (p hn)
 have U2:=(U1.trans (u.beside U1.au)).perm (List.Perm.refl _) (p hn').symm
 refine U2.forget ?_
 have e:jy (hl++(hn'++B)) xB oB H vp vs hp hs++h'=hl++(hn'++(B++([(xB, .cells H 92 (0,0)),(oB, .cells #[vp,vs] 79 (0,0))]++((hp++hs)++h')))):=by simp
 have e2:(hl++(hn'++(B++(hp++hs))))++h'=hl++(hn'++(B++((hp++hs)++h'))):=by simp
 rw[e,e2]
 exact((((List.sublist_append_right _ _).append_left B).append_left hn').append_left hl)
theorem Lr{hl hn hn' B:Hp}(U:aj h0 (jy (hl++(hn++B)) xB oB H vp vs hp hs++h') w0 w)(u:aj hn hn' w w'):aj h0 (jy (hl++(hn'++B)) xB oB H vp vs hp hs++h') w0 w':=by
 have p: ∀hn:Hp,(jy (hl++(hn++B)) xB oB H vp vs hp hs++h').Perm (hn++(hl++(B++([(xB, .cells H 92 (0,0)),(oB, .cells #[vp,vs] 79 (0,0))]++((hp++hs)++h'))))):=fun hn=>by
  have e:jy (hl++(hn++B)) xB oB H vp vs hp hs++h'=hl++(hn++(B++([(xB, .cells H 92 (0,0)),(oB, .cells #[vp,vs] 79 (0,0))]++((hp++hs)++h')))):=by simp
  rw[e]
  exact pull _ _ _
 have U1:=U.perm (List.Perm.refl _) (p hn)
 exact(U1.trans (u.beside U1.au)).perm (List.Perm.refl _) (p hn').symm
theorem SQ{hl hn B:Hp}(hi:In w (jy (hl++(hn++B)) xB oB H vp vs hp hs++h')):In w hn:=hi.left.left.left.right.left
end
def af.yu(s:af)(l:List Int)(a:Int):qB:=⟨(s.gV a).map (jX l),(List.range ((ag s.ws a).size-(ag s.ws a).ptrs).toNat).map fun(k:Nat)=>oU s.ws (place a ((ag s.ws a).ptrs+k))⟩
end Go.Proofs.YtibemcgdmembeaaGreat
namespace Go.Proofs.YtibemcgdmembeaaGreat
open Go Go.RowKit
section
variable{P:Program}{ops:Array Oper}{Q:Exit->Act->World->Prop}{md:Region.Mode}{S:World->Prop}{s:Nat}
def qV(P:Program)(md:Region.Mode)(ops:Array Oper)(Q:Exit->Act->World->Prop)(S:World->Prop)(s:Nat):Nat->Array Bool->Act->World->Prop
 |0,listed,a,w=>Region.ready md ops listed=[]/\Q .normal a w
 |fuel+1,listed,a,w=>(Region.ready md ops listed=[]->Q .normal a w)/\
   ∀i∈Region.ready md ops listed,wpOp P ops Q i (fun a' w'=>(i≠s->S w')/\qV P md ops Q S s fuel (listed.setIfInBounds i true) a' w') a w
theorem wF: ∀(fuel:Nat) (listed:Array Bool) (a:Act) (w:World),qV P md ops Q S s fuel listed a w->wpAny P md ops Q fuel listed a w
 |0,_,_,_,h=>h
 |fuel+1,_,_,_,h=>⟨h.1,fun i hi=>wpOp_mono (fun a' w' h'=>wF fuel _ a' w' h'.2) (h.2 i hi)⟩
def waits(md:Region.Mode)(ops:Array Oper)(s i:Nat):Bool:=match ops[s]? with
 |some o=>o.after.any fun e=>Region.binds md e&&e.on==i
 |none=>false
theorem Oe{i:Nat}{listed:Array Bool}(hw:waits md ops s i=true)(hi:listed.getD i true=false):s∉Region.ready md ops listed:=by
 intro hs
 obtain⟨_,o,ho,hall⟩:=mem_ready.1 hs
 unfold waits at hw
 rw[ho]at hw
 obtain⟨e,he,hb⟩:=Array.any_eq_true'.1 hw
 simp only[Bool.and_eq_true,beq_iff_eq]at hb
 have h1:=hall e he hb.1
 rw[hb.2]at h1
 rcases Nat.lt_or_ge i listed.size with h'|h'
 ·simp[h']at hi h1
  rw[hi]at h1
  cases h1
 ·simp[Array.getElem?_eq_none h']at h1
theorem FQ{i:Nat}{oi:Oper}{v:Value}(hi:ops[i]? =some oi)(hsel: ∀(j:Nat) (o:Oper) cs b,ops[j]? =some o->o.op≠ .select cs b)
  (hQ: ∀c a w,Q (.panic c) (a.put oi.dst v) w->Q (.panic c) a w)(hwt:waits md ops s i=true):
  ∀(fuel:Nat) (listed:Array Bool) (a:Act) (w:World),
   (∀j oj,ops[j]? =some oj->j≠i->listed.getD j true=false->(∀e∈oj.after,Region.binds md e=true->e.on≠i)->oi.apart ops oj=true)->
   i∈Region.ready md ops listed->YieldsIf P ops S oi v a->S w->
   qV P md ops Q S s fuel (listed.setIfInBounds i true) (a.put oi.dst v) w->qV P md ops Q S s (fuel+1) listed a w:=by
 intro fuel
 induction fuel with
 |zero=>
  intro listed a w _ hr hy hS H
  refine⟨fun h=>(by rw[h]at hr;cases hr),fun j hj=> ?_⟩
  by_cases hji:j=i
  ·subst hji
   exact hy.wpOp hi hS ⟨fun _=>hS,H⟩
  ·have hm:=ready_mono hj hji
   rw[H.1]at hm
   cases hm
 |succ fuel ih=>
  intro listed a w hfree hr hy hS H
  refine⟨fun h=>(by rw[h]at hr;cases hr),fun j hj=> ?_⟩
  by_cases hji:j=i
  ·subst hji
   exact hy.wpOp hi hS ⟨fun _=>hS,H⟩
  ·have hjs:j≠s:=by
    rintro rfl
    exact Oe hwt (mem_ready.1 hr).1 hj
   have h1:=H.2 j (ready_mono hj hji)
   obtain⟨hjun,oj,hoj,hall⟩:=mem_ready.1 hj
   have hnot: ∀e∈oj.after,Region.binds md e=true->e.on≠i:=fun e he hb heq=>by
    have g1:=hall e he hb
    have g0:=(mem_ready.1 hr).1
    rw[heq]at g1
    rcases Nat.lt_or_ge i listed.size with h'|h'
    ·simp[h']at g0 g1
     rw[g0]at g1
     cases g1
    ·simp[Array.getElem?_eq_none h']at g1
   have h2:=wpOp_putIf hoj (hfree j oj hoj hji hjun hnot) (fun cs b=>hsel i oi cs b hi) (fun cs b=>hsel j oj cs b hoj) hQ hy h1
   have hfree': ∀k ok,ops[k]? =some ok->k≠i->(listed.setIfInBounds j true).getD k true=false->
     (∀e∈ok.after,Region.binds md e=true->e.on≠i)->oi.apart ops ok=true:=fun k ok hk hki hun hno=>by
    refine hfree k ok hk hki ?_ hno
    by_cases hjk:j=k
    ·subst hjk
     exact hjun
    ·rw[getD_set_ne true hjk]at hun
     exact hun
   refine wpOp_mono (fun a' w' h3=>⟨h3.2.1,ih (listed.setIfInBounds j true) a' w' hfree' (ready_mono hr (Ne.symm hji)) h3.1 (h3.2.1 hjs) ?_⟩) h2
   rw[Array.setIfInBounds_comm _ _ hji]
   exact h3.2.2
theorem jQ{i:Nat}{oi:Oper}{v:Value}{fuel:Nat}{listed:Array Bool}{a:Act}{w:World}(hi0:ops.toList[i]? =some oi)
  (hs:Region.noSelect ops=true)(hf:Region.free md ops listed i=true)(hr:(Region.ready md ops listed).contains i=true)(hwt:waits md ops s i=true)
  (hQ: ∀c a w,Q (.panic c) (a.put oi.dst v) w->Q (.panic c) a w)(hy:YieldsIf P ops S oi v a)(hS:S w)
  (h:qV P md ops Q S s fuel (listed.setIfInBounds i true) (a.put oi.dst v) w):qV P md ops Q S s (fuel+1) listed a w:=
 have hi:ops[i]? =some oi:=by rw[<-Array.getElem?_toList];exact hi0
 FQ hi (Region.noSelect_spec hs) hQ hwt fuel listed a w (Region.free_spec hi hf) (by simpa using hr) hy hS h
theorem p_{i:Nat}{o:Oper}{fuel:Nat}{listed:Array Bool}{a:Act}{w:World}(hr:Region.ready md ops listed=[i])(ho0:ops.toList[i]? =some o)
  (h: ∀K':Act->World->Prop,Shut (∀a w,(i≠s->S w)->qV P md ops Q S s fuel (listed.setIfInBounds i true) a w->K' a w)->if Region.wanted o (yielded ops a.tmps)=true then Oper.wp P o a w K' Q else K' (a.put o.dst undef) w):
  qV P md ops Q S s (fuel+1) listed a w:=
 ⟨fun h0=>by(rw[hr]at h0;cases h0),fun j hj=>by
  rw[hr]at hj
  obtain rfl:=List.mem_singleton.1 hj
  have ho:ops[j]? =some o:=by rw[<-Array.getElem?_toList];exact ho0
  exact wpOp_step ho (fun K' hK=>h K' (fun a w hS hW=>hK a w ⟨hS,hW⟩))⟩
theorem IB{listed:Array Bool}{a:Act}{w:World}(hr:Region.ready md ops listed=[])(h:Q .normal a w): ∀fuel,qV P md ops Q S s fuel listed a w
 |0=>⟨hr,h⟩
 |_+1=>⟨fun _=>h,by rw[hr];simp⟩
theorem CG{id:Nat}{a:Act}{w:World}(S:World->Prop)(s:Nat)(hm:P.follows .mixedOrders=true)
  (h:qV P .any ops Q S s ops.size (Array.replicate ops.size false) a w.drew):(Code.region id ops true).wp P Q a w:=
 wp_region_any hm (wF _ _ _ _ h)
end
end Go.Proofs.YtibemcgdmembeaaGreat
namespace Go.Proofs.YtibemcgdmembeaaGreat
open Go.RowKit
def Y_(pc:Nat)(L:aX)(s:af)(h:Hp)(w wr:World)(hl:Hp)(vv:Value)(NL:List qB):Prop:=
 ∃(rows:List iK) (hn h':Hp),aK 79 2 vv rows.length (rows.flatMap iK.cells) hn/\ (∀r∈rows,r.Ok)/\rows.map iK.node=NL/\ah pc L s h'/\aj h ((hl++(hn++rows.flatMap iK.blocks))++h') w wr
def WkP(pc:Nat)(L:aX)(s:af)(h:Hp)(w wr:World)(X:Hp)(xB oB:Nat)(H:Array Value)(l:List Int):Prop:=
 ∃vp hp h',aK 3 1 vp l.length (ints l) hp/\ah pc L s h'/\aj h (jy X xB oB H vp (.slice none 0 0) hp []++h') w wr
def WkS(pc:Nat)(L:aX)(s:af)(h:Hp)(w wr:World)(X:Hp)(xB oB:Nat)(H:Array Value)(vp:Value)(hp:Hp)(l:List Int):Prop:=
 ∃vs hs h',aK 33 1 vs l.length (J_ l) hs/\ah pc L s h'/\aj h (jy X xB oB H vp vs hp hs++h') w wr
def WkT(pc:Nat)(L:aX)(s:af)(h:Hp)(w wr:World)(A:Hp)(vv:Value)(l:List Int):Prop:=
 ∃hh h',aK 3 1 vv l.length (ints l) hh/\ah pc L s h'/\aj h (A++(hh++h')) w wr
theorem SS{A hh h' h'' h0:Hp}{w0 w w':World}(U:aj h0 (A++(hh++h')) w0 w)(u:aj h' h'' w w'):aj h0 (A++(hh++h'')) w0 w':=by
 rw[<-List.append_assoc]at U⊢
 exact aj.dP U u
theorem Vz{A hh hh' h' h0:Hp}{w0 w w':World}(U:aj h0 (A++(hh++h')) w0 w)(u:aj hh hh' w w'):aj h0 (A++(hh'++h')) w0 w':=aj.fM U (u.beside U.au.right)
theorem SV{h7 hl Z hh h':Hp}{w:World}(hi:In w ((h7++(hl++Z))++(hh++h'))):In w (hl++h'):=
 hi.sub (List.Sublist.append ((List.sublist_append_left hl Z).trans (List.sublist_append_right h7 _)) (List.sublist_append_right hh h'))
theorem take_snoc{α:Type}{l:List α}{k:Nat}(d:α)(h:k<l.length):l.take (k+1)=l.take k++[l.getD k d]:=by
 rw[List.take_succ_eq_append_getElem h]
 simp[List.getD,h]
theorem Kq(pc:Nat)(L:aX)(s:af)(M:Nat)(hM:M<=1000000)(Ok:List Int->Prop)(hO:yt s M Ok)(LV:List Int)(Vx:LV=s.oQ (M+1))(hLn:LV.length<=M)(w:World)(h:Hp)(hi:In w h)(hc:ah pc L s h):
  Calls Tryz.prog 22 #[ptr pc] w fun e w'=> ∃v1 v2,∃(rows:List iK) (hn hh h':Hp),e= .returned (.tuple #[v1,v2])/\aK 79 2 v1 rows.length (rows.flatMap iK.cells) hn/\ (∀r∈rows,r.Ok)/\rows.map iK.node=LV.map (s.yu LV)/\
   aK 3 1 v2 s.t.length (ints (s.t.map fun x=>jX LV (s.now x))) hh/\ah pc L s h'/\aj h ((hn++rows.flatMap iK.blocks)++(hh++h')) w w':=by
 have hlive:=yF pc L s M hM Ok hO w h hi hc
 rw[<-Vx]at hlive
 obtain⟨t64,tI,_,_⟩:=hc.facts
 clear Vx hO
 have NJ:=Lib.hid (fun a W h (hW:In W h) (hc:ah pc L s h)=>kY pc L s a W h hW hc)
 have VM:=Lib.hid (fun a k W h (hW:In W h) (hc:ah pc L s h)=>uI pc L s a k W h hW hc)
 have HFd:=Lib.hid (fun a k W h (hW:In W h) (hc:ah pc L s h)=>Ko pc L s a k W h hW hc)
 have PD:=Lib.hid (fun W h (hW:In W h) (hc:ah pc L s h)=>xH pc L s W h hW hc)
 have VN:=Lib.hid tI
 obtain⟨n,hn⟩: ∃n,n=LV.length:=⟨_,rfl⟩
 rw[<-hn]at hLn hlive
 have HLn:=Lib.hid hn.symm
 clear hn tI hi hc
 simp only[ptr]at*
 go_enter Tryz.func22,Tryz.ntmps22
 go_wp2_with(go_at_call 38;refine Calls.mono hlive ?_;rintro e w5 ⟨v5,hl,hc5,rfl,s5,c5,u5⟩;have XL:=Lib.hid s5;(have H5:Hid (Y_ pc L s h w w5 hl (.slice none 0 0) ((LV.take 0).map (s.yu LV))):=Lib.hid ⟨[],[],hc5,aK.nil _ _,by simp,by simp,c5,by simpa using u5⟩);obtain⟨ao5,cap5,rfl,hcap5⟩:=s5.shape;clear s5 c5 u5 hlive)
 have HNm:=Lib.hid (fun x W h' (hW:In W (hl++h')) (hc:ah pc L s h') (hx:I64 x)=>Iw pc L s LV n ao5 cap5 x W h' hl hW hc XL.out (by omega) hx)
 go_loopw [5,23] (fun v i wr=> ∃(j:Nat) (vv:Value),j<=n/\i= .int .i64 j/\vv=v/\Hid (Y_ pc L s h w wr hl vv ((LV.take j).map (s.yu LV)))) (fun _ i _=>n-(intOf i).toNat)
 case atStart=>exact⟨0,_,by omega,rfl,rfl,H5⟩
 case round=>
  obtain⟨j,vv,hj,rfl,rfl,HJ⟩:=hrel
  clear H5
  by_cases hjn:j<n
  ·obtain⟨rows,hn,h',r1,r2,r3,r4,r5⟩:=HJ.out
   obtain⟨an,SY,rfl,Xb⟩:=r1.shape
   obtain⟨gb,off,rfl,hcj⟩:=aK.nH (kd:= .i64) XL.out r5.au.left.left hjn
   have htk:LV.take (j+1)=LV.take j++[LV.getD j 0]:=take_snoc 0 (by rw[HLn.out];exact hjn)
   have hrl:rows.length<=1048576:=by
    have:=congrArg List.length r3
    simp at this
    omega
   generalize LV.getD j 0=a at*
   have hhd:=NJ.out a wr h' r5.au.right r4
   have hG:(ag s.ws a).Good:=dU _
   obtain⟨g1,g2,g3,g4,_⟩:=hG
   obtain⟨p,hp⟩: ∃p:Nat,(ag s.ws a).ptrs=p:=⟨(ag s.ws a).ptrs.toNat,by omega⟩
   obtain⟨q,hq⟩: ∃q:Nat,(ag s.ws a).size-(ag s.ws a).ptrs=q:=⟨((ag s.ws a).size-(ag s.ws a).ptrs).toNat,by omega⟩
   have Ud:Hid (s.yu LV a=⟨((List.range p).map fun(k:Nat)=>jX LV (s.now (aQ s.ws a k))),(List.range q).map fun(k:Nat)=>oU s.ws (place a (p+k))⟩):=Lib.hid (by
    unfold af.yu af.gV af.bQ
    rw[hq,hp]
    simp[Function.comp_def])
   obtain⟨PL,Sj⟩: ∃PL,PL=(List.range p).map fun(k:Nat)=>jX LV (s.now (aQ s.ws a k)):=⟨_,rfl⟩
   obtain⟨SL,Za⟩: ∃SL,SL=(List.range q).map fun(k:Nat)=>oU s.ws (place a (p+k)):=⟨_,rfl⟩
   have VQ:Hid (PL.length=p/\ ∀k,k<p->PL.getD k 0=jX LV (s.now (aQ s.ws a k))):=Lib.hid (by
    subst Sj
    refine⟨by simp,fun k hk=>by simp[List.getD,hk]⟩)
   have VR:Hid (SL.length=q/\ ∀k,k<q->SL.getD k 0=oU s.ws (place a (p+k))):=Lib.hid (by
    subst Za
    refine⟨by simp,fun k hk=>by simp[List.getD,hk]⟩)
   rw[<-Sj,<-Za]at Ud
   have R1:=Lib.hid r1
   have R2:=Lib.hid r2
   have R3:=Lib.hid r3
   have R5:=Lib.hid r5
   have HTk:=Lib.hid htk
   clear r1 r2 r3 r4 r5 HJ htk Sj Za
   generalize ag s.ws a=Hh at*
   obtain⟨x1,x2,x3,x4,x5,x6,x7⟩:=Hh
   simp only at hp hq g1 g2 g3 g4
   subst hp
   simp only[aF]at hhd
   have hwq:IntKind.i64.wrap (x1-(p:Int))=q:=by rw[hq];exact IntWalk.i64_in _ (by omega)
   have Y5:p<=64:=by omega
   have hq64:q<=64:=by omega
   go_wp2_with(go_at_call 59;refine Calls.mono hhd ?_;rintro e w6 ⟨rfl,h6,c6,u6⟩;have U6:=Lib.hid (aj.dP R5.out u6);have C6:=Lib.hid c6;clear u6 c6 hhd)
   have UA:=(((aj.alloc' U6.out (.cells #[.int .i64 x1, .int .i64 (p:Int), .int .i64 x3, .int .i64 x4, .bool x5, .bool x6, .bool x7] 92 (0,0))))).alloc' (.cells #[.slice none 0 0, .slice none 0 0] 79 (0,0))
   have hsz:(w6.alloc (.cells #[.int .i64 x1, .int .i64 (p:Int), .int .i64 x3, .int .i64 x4, .bool x5, .bool x6, .bool x7] 92 (0,0))).heap.size=w6.heap.size+1:=by simp
   rw[hsz]at UA
   go_wp2
   generalize (w6.alloc (.cells #[.int .i64 x1, .int .i64 (p:Int), .int .i64 x3, .int .i64 x4, .bool x5, .bool x6, .bool x7] 92 (0,0))).alloc (.cells #[.slice none 0 0, .slice none 0 0] 79 (0,0))=W at*
   obtain⟨HC,XM⟩: ∃HC:Array Value,HC=#[.int .i64 x1, .int .i64 (p:Int), .int .i64 x3, .int .i64 x4, .bool x5, .bool x6, .bool x7]:=⟨_,rfl⟩
   have Dq:Hid (HC[0]? =some (.int .i64 x1)):=Lib.hid (by rw[XM];rfl)
   have Zb:Hid (HC[1]? =some (.int .i64 (p:Int))):=Lib.hid (by rw[XM];rfl)
   rw[<-XM]at UA
   clear XM hsz
   generalize w6.heap.size+1=oB at*
   generalize w6.heap.size=xB at*
   have HP0:Hid (WkP pc L s h w W (hl++(hn++rows.flatMap iK.blocks)) xB oB HC (PL.take 0)):=Lib.hid ⟨.slice none 0 0,[],h6,by simpa using aK.nil _ _,C6.out,UA.perm (List.Perm.refl _) (by
    have e:jy (hl++(hn++rows.flatMap iK.blocks)) xB oB HC (.slice none 0 0) (.slice none 0 0) [] []++h6=(hl++(hn++rows.flatMap iK.blocks))++((xB, .cells HC 92 (0,0))::(oB, .cells #[.slice none 0 0, .slice none 0 0] 79 (0,0))::h6):=by simp
    rw[e]
    exact((List.Perm.swap _ _ _).trans (pull [_,_] (hl++(hn++rows.flatMap iK.blocks)) h6)))⟩
   clear UA U6 C6 R5
   go_loopw [32] (fun i wr=> ∃k:Nat,k<=p/\i= .int .i64 k/\Hid (WkP pc L s h w wr (hl++(hn++rows.flatMap iK.blocks)) xB oB HC (PL.take k))) (fun i _=>p-(intOf i).toNat)
   case atStart=>exact⟨0,by omega,rfl,HP0⟩
   case round=>
    obtain⟨k,hk,rfl,HK⟩:=hrel
    clear HP0
    obtain⟨vp,hp,h',s1,c1,u1⟩:=HK.out
    by_cases hkp:k<p
    ·obtain⟨yZ,yx,rfl,Xc⟩:=s1.shape
     have hlen:(PL.take k).length=k:=by rw[List.length_take,VQ.out.1];omega
     rw[hlen]at s1 u1
     have hPk:Hid (∀v hX,aK 3 1 v (k+1) (ints (PL.take k)++[.int .i64 (jX LV (s.now (aQ s.ws a k)))]) hX->aK 3 1 v (PL.take (k+1)).length (ints (PL.take (k+1))) hX):=Lib.hid (fun v hX hh=>by
      rw[take_snoc 0 (by rw[VQ.out.1];exact hkp),VQ.out.2 k hkp,List.length_append,hlen,List.length_singleton]
      simpa only[ints,List.map_append,List.map_cons,List.map_nil]using hh)
     have H1:=Lib.hid s1
     have HU:=Lib.hid u1
     have HCc:=Lib.hid c1
     have hSA:wr.drew.cell? ⟨oB,0,none⟩=some (.slice yZ k yx):=cell_of (xh u1.au) 0
     have hrf:=VM.out a k wr.drew h' u1.au.right.drew c1
     have VK:Hid (I64 (aQ s.ws a k)):=Lib.hid (I64.wrap _)
     clear s1 u1 c1 HK hlen
     generalize aQ s.ws a k=rr at*
     go_wp2
     refine CG (fun w'=>w'.cell? ⟨oB,0,none⟩=some (.slice yZ k yx)) 12 (by kernel_rfl) ?_
     have hS0:=hSA
     refine jQ (i:=0) (v:= ?_) rfl (by kernel_rfl) (by kernel_rfl) (by kernel_rfl) (by kernel_rfl) (fun _ _ _ h=>h) (Or.inl ⟨by rfl, ?_⟩) hS0 ?_
     rotate_left
     ·(intro w' hSw;(try dsimp only at hSw);first|(go_simp;done)|(go_simp;with_reducible rfl))
     try simp only[Act.put,List.setIfInBounds_toArray]
     try dsimp only[List.set_cons_zero,List.set_cons_succ]
     refine jQ (i:=1) (v:= ?_) rfl (by kernel_rfl) (by kernel_rfl) (by kernel_rfl) (by kernel_rfl) (fun _ _ _ h=>h) (Or.inl ⟨by rfl, ?_⟩) hS0 ?_
     rotate_left
     ·(intro w' hSw;(try dsimp only at hSw);first|(go_simp;done)|(go_simp;with_reducible rfl))
     try simp only[Act.put,List.setIfInBounds_toArray]
     try dsimp only[List.set_cons_zero,List.set_cons_succ]
     refine jQ (i:=2) (v:= ?_) rfl (by kernel_rfl) (by kernel_rfl) (by kernel_rfl) (by kernel_rfl) (fun _ _ _ h=>h) (Or.inl ⟨by rfl, ?_⟩) hS0 ?_
     rotate_left
     ·(intro w' hSw;(try dsimp only at hSw);first|(go_simp;done)|(go_simp;with_reducible rfl))
     try simp only[Act.put,List.setIfInBounds_toArray]
     try dsimp only[List.set_cons_zero,List.set_cons_succ]
     refine jQ (i:=3) (v:= ?_) rfl (by kernel_rfl) (by kernel_rfl) (by kernel_rfl) (by kernel_rfl) (fun _ _ _ h=>h) (Or.inl ⟨by rfl, ?_⟩) hS0 ?_
     rotate_left
     ·(intro w' hSw;(try dsimp only at hSw);first|(go_simp;done)|(go_simp;with_reducible rfl))
     try simp only[Act.put,List.setIfInBounds_toArray]
     try dsimp only[List.set_cons_zero,List.set_cons_succ]
     refine jQ (i:=4) (v:= ?_) rfl (by kernel_rfl) (by kernel_rfl) (by kernel_rfl) (by kernel_rfl) (fun _ _ _ h=>h) (Or.inl ⟨by rfl, ?_⟩) hS0 ?_
     rotate_left
     ·(intro w' hSw;(try dsimp only at hSw);first|(go_simp;done)|(go_simp;with_reducible rfl))
     try simp only[Act.put,List.setIfInBounds_toArray]
     try dsimp only[List.set_cons_zero,List.set_cons_succ]
     refine jQ (i:=5) (v:= ?_) rfl (by kernel_rfl) (by kernel_rfl) (by kernel_rfl) (by kernel_rfl) (fun _ _ _ h=>h) (Or.inl ⟨by rfl, ?_⟩) hS0 ?_
     rotate_left
     ·(intro w' hSw;(try dsimp only at hSw);first|(go_simp;done)|(go_simp;with_reducible rfl))
     try simp only[Act.put,List.setIfInBounds_toArray]
     try dsimp only[List.set_cons_zero,List.set_cons_succ]
     refine jQ (i:=6) (v:= ?_) rfl (by kernel_rfl) (by kernel_rfl) (by kernel_rfl) (by kernel_rfl) (fun _ _ _ h=>h) (Or.inl ⟨by rfl, ?_⟩) hS0 ?_
     rotate_left
     ·(intro w' hSw;(try dsimp only at hSw);first|(go_simp;done)|(go_simp;with_reducible rfl))
     try simp only[Act.put,List.setIfInBounds_toArray]
     try dsimp only[List.set_cons_zero,List.set_cons_succ]
     refine p_ (i:=7) (by kernel_rfl) rfl (fun K' hK'=> ?_)
     go_simp
     (go_at_call 61;refine Calls.mono hrf ?_;rintro e w7 ⟨rfl,h7,c7,u7⟩;have U7:=Lib.hid (aj.dP HU.out.drew' u7);have C7:=Lib.hid c7;have hS7:w7.cell? ⟨oB,0,none⟩=some (.slice yZ k yx):=cell_of (xh U7.out.au) 0;have hnm:=HNm.out rr w7 h7 (SN U7.out.au) c7 VK.out;clear u7 c7 hrf)
     try go_wp2_with fail
     refine hK'.out _ _ (fun _=>hS7) ?_
     clear hK' K'
     try simp only[Act.put,List.setIfInBounds_toArray]
     try dsimp only[List.set_cons_zero,List.set_cons_succ]
     clear hS0
     have hS0:=hS7
     refine p_ (i:=8) (by kernel_rfl) rfl (fun K' hK'=> ?_)
     go_simp
     (go_at_call 60;refine Calls.mono hnm ?_;rintro e w8 ⟨rfl,h8,c8,u8⟩;have U8:=Lib.hid (aj.dP U7.out u8);have C8:=Lib.hid c8;have RF:w8.cell? ⟨oB,0,none⟩=some (.slice yZ k yx):=cell_of (xh U8.out.au) 0;clear u8 c8 hnm;generalize jX LV (s.now rr)=nu at*;have UX:=Lib.hid (U8.out.skip' (.cells #[.int .i64 nu] 3 (0,0)));have HN:=Lib.hid (kF (news:=[.int .i64 nu]) (w:=w8.alloc (.cells #[.int .i64 nu] 3 (0,0))) (b:=w8.heap.size) (T:=3) (fr:=(0,0)) (aV rfl));have wO:(w8.alloc (.cells #[.int .i64 nu] 3 (0,0))).cell? ⟨oB,0,none⟩=some (.slice yZ k yx):=cell_of (xh UX.out.au) 0)
     try go_wp2_with fail
     refine hK'.out _ _ (fun _=>RF) ?_
     clear hK' K'
     try simp only[Act.put,List.setIfInBounds_toArray]
     try dsimp only[List.set_cons_zero,List.set_cons_succ]
     clear hS0
     have hS0:=RF
     refine p_ (i:=9) (by kernel_rfl) rfl (fun K' hK'=> ?_)
     go_wp2_with fail
     refine hK'.out _ _ (fun _=>wO) ?_
     clear hK' K'
     try simp only[Act.put,List.setIfInBounds_toArray]
     try dsimp only[List.set_cons_zero,List.set_cons_succ]
     clear hS0
     have hS0:=wO
     refine p_ (i:=10) (by kernel_rfl) rfl (fun K' hK'=> ?_)
     (refine nN rfl (.tmp 36) (.tmp 44) 41 rfl 3 1 8 _ Tryz.underlying41 Tryz.kG rfl (by decide) (.slice yZ k yx) k (ints (PL.take k)) hp (by rfl) H1.out (W_ UX.out.au) ⟨w8.heap.size,0,none⟩ 1 1 [.int .i64 nu] (by rfl) HN.out rfl (by intro u hu;simp at hu;subst hu;rfl) (Or.inl (by decide)) (by unfold maxLen;omega) (by omega) ?_;intro v' w9 hX' hS' qG;have U9:=Lib.hid (Y8 UX.out qG);have S9:=Lib.hid hS';obtain⟨ao9,Zc,rfl,_⟩:=hS'.shape;have Dl:w9.cell? ⟨oB,0,none⟩=some (.slice yZ k yx):=cell_of (xh U9.out.au) 0;have Zd:w9.frozen? ⟨oB,0,none⟩=false:=aO (xh U9.out.au) 0;clear hS' qG)
     refine hK'.out _ _ (fun _=>Dl) ?_
     clear hK' K'
     try simp only[Act.put,List.setIfInBounds_toArray]
     try dsimp only[List.set_cons_zero,List.set_cons_succ]
     clear hS0
     have hS0:=Dl
     refine jQ (i:=11) (v:= ?_) rfl (by kernel_rfl) (by kernel_rfl) (by kernel_rfl) (by kernel_rfl) (fun _ _ _ h=>h) (Or.inl ⟨by rfl, ?_⟩) hS0 ?_
     rotate_left
     ·(intro w' hSw;(try dsimp only at hSw);first|(go_simp;done)|(go_simp;with_reducible rfl))
     try simp only[Act.put,List.setIfInBounds_toArray]
     try dsimp only[List.set_cons_zero,List.set_cons_succ]
     refine p_ (i:=12) (by kernel_rfl) rfl (fun K' hK'=> ?_)
     go_simp
     try go_wp2_with fail
     refine hK'.out _ _ (fun hne=>absurd rfl hne) ?_
     clear hK' K'
     try simp only[Act.put,List.setIfInBounds_toArray]
     try dsimp only[List.set_cons_zero,List.set_cons_succ]
     refine IB (by kernel_rfl) ?_ _
     go_simp
     go_wp2
     go_roundw
     case rel=>exact⟨k+1,by omega,by go_num,Lib.hid ⟨_,hX',h8,hPk.out _ _ S9.out,C8.out,SI U9.out _⟩⟩
     case measure=>simp[intOf];omega
    ·have e1:PL.take k=PL:=List.take_of_length_le (by rw[VQ.out.1];omega)
     rw[e1]at s1
     have x0:wr.cell? ⟨xB,0,none⟩=some (.int .i64 x1):=(cell_of (SH u1.au) 0).trans Dq.out
     have x11:wr.cell? ⟨xB,1,none⟩=some (.int .i64 (p:Int)):=(cell_of (SH u1.au) 1).trans Zb.out
     have H1:=Lib.hid s1
     have Wu:Hid (WkS pc L s h w wr (hl++(hn++rows.flatMap iK.blocks)) xB oB HC vp hp (SL.take 0)):=Lib.hid ⟨.slice none 0 0,[],h',by simpa using aK.nil _ _,c1,u1⟩
     clear s1 u1 c1 HK e1
     go_wp2
     go_loopw [53] (fun i wr=> ∃k:Nat,k<=q/\i= .int .i64 k/\Hid (WkS pc L s h w wr (hl++(hn++rows.flatMap iK.blocks)) xB oB HC vp hp (SL.take k))) (fun i _=>q-(intOf i).toNat)
     case atStart=>exact⟨0,by omega,rfl,Wu⟩
     case round=>
      clear Wu x0 x11
      obtain⟨k,hk,rfl,HK⟩:=hrel
      obtain⟨vs,hs,h',s2,c1,u1⟩:=HK.out
      by_cases hkq:k<q
      ·obtain⟨CJ,caps,rfl,Xd⟩:=s2.shape
       have hlen:(SL.take k).length=k:=by rw[List.length_take,VR.out.1];omega
       rw[hlen]at s2 u1
       have hSk:Hid (∀v hX,aK 33 1 v (k+1) (J_ (SL.take k)++[.int .u64 (oU s.ws (place a (p+k)))]) hX->aK 33 1 v (SL.take (k+1)).length (J_ (SL.take (k+1))) hX):=Lib.hid (fun v hX hh=>by
        rw[take_snoc 0 (by rw[VR.out.1];exact hkq),VR.out.2 k hkq,List.length_append,hlen,List.length_singleton]
        simpa only[J_,List.map_append,List.map_cons,List.map_nil]using hh)
       have hwpk:IntKind.i64.wrap ((p:Int)+(k:Int))=(p:Int)+k:=IntWalk.i64_in _ (by omega)
       have hfd:=HFd.out a (p+k) wr.drew h' u1.au.right.drew c1
       have hS0:wr.drew.cell? ⟨pc,13,none⟩=some (ptr L.pa)/\wr.drew.cell? ⟨xB,1,none⟩=some (.int .i64 (p:Int)):=⟨(ah.ptrs c1 u1.au).1,(cell_of (SH u1.au) 1).trans Zb.out⟩
       have H2:=Lib.hid s2
       have HU:=Lib.hid u1
       simp only[ptr]at hS0 hfd
       clear s2 u1 c1 HK hlen
       generalize oU s.ws (place a (p+k))=nu at*
       go_wp2
       go_region_held3 (fun w'=>w'.cell? ⟨pc,13,none⟩=some (.pointer (some ⟨L.pa,0,none⟩))/\w'.cell? ⟨xB,1,none⟩=some (.int .i64 (p:Int)))
        (first|with_reducible exact hS0|with_reducible exact wO|go_keep)
        (first|(go_at_call 62;refine Calls.mono hfd ?_;rintro e w7 ⟨rfl,h7,c7,u7⟩;have U7:=Lib.hid (aj.dP HU.out.drew' u7);have C7:=Lib.hid c7;have wO:w7.cell? ⟨pc,13,none⟩=some (.pointer (some ⟨L.pa,0,none⟩))/\w7.cell? ⟨xB,1,none⟩=some (.int .i64 (p:Int)):=⟨(ah.ptrs C7.out U7.out.au).1,(cell_of (SH U7.out.au) 1).trans Zb.out⟩;clear u7 c7 hfd))
       have o1:w7.cell? ⟨oB,1,none⟩=some (.slice CJ k caps):=cell_of (xh U7.out.au) 1
       have UX:=Lib.hid (U7.out.skip' (.cells #[.int .u64 nu] 33 (0,0)))
       have HN:=Lib.hid (kF (news:=[.int .u64 nu]) (w:=w7.alloc (.cells #[.int .u64 nu] 33 (0,0))) (b:=w7.heap.size) (T:=33) (fr:=(0,0)) (aV rfl))
       clear hS0 wO
       go_wp2_with(at_builtin;refine cO rfl (.tmp 70) (.tmp 72) 77 rfl 33 1 8 (.int .u64 0) Tryz.underlying77 Tryz.KO rfl (by decide) (.slice CJ k caps) k (J_ (SL.take k)) hs rfl H2.out (Xa UX.out.au) ⟨w7.heap.size,0,none⟩ 1 1 [.int .u64 nu] rfl HN.out rfl (by intro u hu;simp at hu;subst hu;rfl) (Or.inl (by decide)) (by unfold maxLen;omega) (by omega) ?_;intro v' w9 hX' hS' qG;have U9:=Lib.hid (Y9 UX.out qG);have S9:=Lib.hid hS';obtain⟨ao9,Zc,rfl,_⟩:=hS'.shape;have Dl:w9.cell? ⟨oB,1,none⟩=some (.slice CJ k caps):=cell_of (xh U9.out.au) 1;have Zd:w9.frozen? ⟨oB,1,none⟩=false:=aO (xh U9.out.au) 1;clear hS' qG)
       go_roundw
       case rel=>exact⟨k+1,by omega,by go_num,Lib.hid ⟨_,hX',h7,hSk.out _ _ S9.out,C7.out,SK U9.out _⟩⟩
       case measure=>simp[intOf];omega
      ·have e1:SL.take k=SL:=List.take_of_length_le (by rw[VR.out.1];omega)
       rw[e1,VR.out.1]at s2
       have s1:=H1.out
       rw[VQ.out.1]at s1
       obtain⟨yZ,yx,rfl,Xc⟩:=s1.shape
       obtain⟨CJ,caps,rfl,Xd⟩:=s2.shape
       have t1:=s1.rY
       have t2:=s2.rY
       have hc1:=fun W=>Iy (.slice yZ p yx) p (ints PL) W hp s1 (by omega)
       have hc2:=fun W=>Qr (.slice CJ q caps) q (J_ SL) W hs s2 (by omega)
       obtain⟨c1',e2⟩: ∃c1,rY (.slice yZ p yx)= .slice yZ p c1:=by cases yZ<;>exact⟨_,rfl⟩
       obtain⟨c2',e3⟩: ∃c2,rY (.slice CJ q caps)= .slice CJ q c2:=by cases CJ<;>exact⟨_,rfl⟩
       rw[e2]at t1 hc1
       rw[e3]at t2 hc2
       have Ze:Hid (∀v' hX' w9,aK 79 2 v' (rows.length+1) (rows.flatMap iK.cells++[.slice yZ p c1', .slice CJ q c2']) hX'->aj hn hX' ((wr.alloc (.cells #[.slice yZ p c1', .slice CJ q c2'] 79 (0,0))).drew) w9->Y_ pc L s h w w9 hl v' ((LV.take (j+1)).map (s.yu LV))):=Lib.hid (fun v' hX' w9 hS hU=>by
        have r1:(rows++[(⟨⟨PL,SL⟩, .slice yZ p c1', .slice CJ q c2',hp,hs⟩:iK)]).length=rows.length+1:=by simp
        refine⟨rows++[⟨⟨PL,SL⟩, .slice yZ p c1', .slice CJ q c2',hp,hs⟩],hX',h', ?_, ?_, ?_,c1, ?_⟩
        ·rw[r1]
         simpa[iK.cells]using hS
        ·intro r hr
         rcases List.mem_append.1 hr with hr|hr
         ·exact R2.out r hr
         ·obtain rfl:=List.mem_singleton.1 hr
          exact⟨by have:=t1;rw[<-VQ.out.1]at this⊢;exact this,by have:=t2;rw[<-VR.out.1]at this⊢;exact this⟩
        ·rw[HTk.out,List.map_append,List.map_append,R3.out]
         simp[Ud.out]
        ·have:=Vy ((u1.skip' (.cells #[.slice yZ p c1', .slice CJ q c2'] 79 (0,0))).drew') hU
         simpa[iK.blocks]using this)
       have hS0:wr.drew.cell? ⟨oB,0,none⟩=some (.slice yZ p yx)/\wr.drew.cell? ⟨oB,1,none⟩=some (.slice CJ q caps):=⟨cell_of (xh u1.au) 0,cell_of (xh u1.au) 1⟩
       have UX:=Lib.hid ((u1.skip' (.cells #[.slice yZ p c1', .slice CJ q c2'] 79 (0,0))).drew')
       have wO:((wr.alloc (.cells #[.slice yZ p c1', .slice CJ q c2'] 79 (0,0))).drew).cell? ⟨oB,0,none⟩=some (.slice yZ p yx)/\ ((wr.alloc (.cells #[.slice yZ p c1', .slice CJ q c2'] 79 (0,0))).drew).cell? ⟨oB,1,none⟩=some (.slice CJ q caps):=⟨cell_of (xh UX.out.au) 0,cell_of (xh UX.out.au) 1⟩
       have HN:=Lib.hid (kF (news:=[.slice yZ p c1', .slice CJ q c2']) (w:=(wr.alloc (.cells #[.slice yZ p c1', .slice CJ q c2'] 79 (0,0))).drew) (b:=wr.heap.size) (T:=79) (fr:=(0,0)) (aV (w:=wr) rfl))
       clear s1 s2 t1 t2 u1 c1 HK e1 e2 e3
       go_wp2
       go_region_held3 (fun w'=>w'.cell? ⟨oB,0,none⟩=some (.slice yZ p yx)/\w'.cell? ⟨oB,1,none⟩=some (.slice CJ q caps))
        (first|with_reducible exact hS0|with_reducible exact wO|with_reducible exact MM|go_keep)
        (first
         | (go_at_call 63;refine Calls.mono (hc1 _) ?_;rintro e w7 ⟨rfl,rfl⟩)
         | (go_at_call 64;refine Calls.mono (hc2 _) ?_;rintro e w7 ⟨rfl,rfl⟩)
         | (refine nN rfl (.tmp 76) (.tmp 84) 40 rfl 79 2 48 _ Tryz.underlying40 Tryz.Ob rfl (by decide) (.slice an rows.length SY) rows.length (rows.flatMap iK.cells) hn (by rfl) R1.out (SQ UX.out.au) ⟨wr.heap.size,0,none⟩ 1 1 [.slice yZ p c1', .slice CJ q c2'] (by rfl) HN.out rfl (by intro u hu;simp at hu;rcases hu with rfl|rfl<;>rfl) (Or.inl (by decide)) (by unfold maxLen;omega) (by omega) ?_;intro v' w9 hX' hS' qG;have WF:=Lib.hid (Ze.out _ _ _ hS' qG);have MM:w9.cell? ⟨oB,0,none⟩=some (.slice yZ p yx)/\w9.cell? ⟨oB,1,none⟩=some (.slice CJ q caps):=⟨cell_of (xh (Lr UX.out qG).au) 0,cell_of (xh (Lr UX.out qG).au) 1⟩;clear hS' qG))
       go_wp2
       go_roundw
       case rel=>exact⟨j+1,_,by omega,by go_num,rfl,WF⟩
       case measure=>simp[intOf];omega
  ·obtain⟨rows,hn,h',r1,r2,r3,r4,r5⟩:=HJ.out
   rw[List.take_of_length_le (by rw[HLn.out];omega)]at r3
   obtain⟨an,SY,rfl,Xb⟩:=r1.shape
   have hrl:rows.length<=1048576:=by
    have:=congrArg List.length r3
    simp at this
    rw[HLn.out]at this
    omega
   have WZ:=(ah.ptrs r4 r5.au).2.2.2.2.2
   have hall:=PD.out wr h' r5.au.right r4
   have t1:=r1.rY
   have hc1:=fun W=>Oc (.slice an rows.length SY) rows.length (rows.flatMap iK.cells) W hn r1 hrl
   obtain⟨c1',e2⟩: ∃c1,rY (.slice an rows.length SY)= .slice an rows.length c1:=by cases an<;>exact⟨_,rfl⟩
   rw[e2]at t1 hc1
   have R1:=Lib.hid t1
   have R2:=Lib.hid r2
   have R3:=Lib.hid r3
   have R4:=Lib.hid r4
   have R5:=Lib.hid r5
   clear r1 r2 r3 r4 r5 HJ t1 e2 NJ VM HFd PD
   simp only[ptr]at WZ
   have hnl:Hid ((s.t.map fun x=>jX LV (s.now x)).length=s.t.length/\ ∀k,k<s.t.length->(s.t.map fun x=>jX LV (s.now x)).getD k 0=jX LV (s.now (s.t.getD k 0))):=Lib.hid ⟨by simp,fun k hk=>by simp[List.getD,hk]⟩
   have HTG:=Lib.hid (fun k (hk:k<s.t.length)=>VN.out (s.t.getD k 0) (Qe hk))
   clear VN
   generalize Xe:(s.t.map fun x=>jX LV (s.now x))=TL at*
   have HTL:=Lib.hid Xe
   clear Xe
   go_wp2_with(go_at_call 65;refine Calls.mono hall ?_;rintro e w7 ⟨v7,h7,rfl,s7,u7⟩;have Vd:=Lib.hid s7;have U7:=Lib.hid (aj.VZ R5.out u7);obtain⟨Xx,QU,rfl,PE⟩:=s7.shape;clear s7 u7 hall)
   have H7:Hid (WkT pc L s h w w7 (h7++(hl++(hn++rows.flatMap iK.blocks))) (.slice none 0 0) (TL.take 0)):=Lib.hid ⟨[],h',by simpa using aK.nil _ _,R4.out,by simpa using U7.out⟩
   clear U7 R4 R5 WZ
   generalize hT:s.t.length=T at*
   go_loopw [14,93] (fun v i wr=> ∃(k:Nat) (vv:Value),k<=T/\i= .int .i64 k/\vv=v/\Hid (WkT pc L s h w wr (h7++(hl++(hn++rows.flatMap iK.blocks))) vv (TL.take k))) (fun _ i _=>T-(intOf i).toNat)
   case atStart=>exact⟨0,_,by omega,rfl,rfl,H7⟩
   case round=>
    obtain⟨k,vv,hk,rfl,rfl,HK⟩:=hrel
    clear H7
    obtain⟨hh,h',s1,c1,u1⟩:=HK.out
    by_cases XN:k<T
    ·obtain⟨XO,S_,rfl,Xf⟩:=s1.shape
     have hlen:(TL.take k).length=k:=by rw[List.length_take,hnl.out.1];omega
     rw[hlen]at s1
     have hTk:Hid (∀v hX,aK 3 1 v (k+1) (ints (TL.take k)++[.int .i64 (jX LV (s.now (s.t.getD k 0)))]) hX->aK 3 1 v (TL.take (k+1)).length (ints (TL.take (k+1))) hX):=Lib.hid (fun v hX hh=>by
      rw[take_snoc 0 (by rw[hnl.out.1];exact XN),hnl.out.2 k XN,List.length_append,hlen,List.length_singleton]
      simpa only[ints,List.map_append,List.map_cons,List.map_nil]using hh)
     obtain⟨gt,ot,rfl,hct⟩:=aK.nH (kd:= .i64) Vd.out u1.au.left.left XN
     have hnm:=HNm.out (s.t.getD k 0) wr h' (SV u1.au) c1 (HTG.out k XN)
     have H1:=Lib.hid s1
     have HU:=Lib.hid u1
     rw[hlen]at*
     clear s1 u1 c1 HK hlen
     simp only[ptr]at hnm
     generalize jX LV (s.now (s.t.getD k 0))=nu at*
     generalize s.t.getD k 0=xt at*
     go_wp2_with(first
      | (go_at_call 60;refine Calls.mono hnm ?_;rintro e w8 ⟨rfl,h8,c8,u8⟩;have U8:=Lib.hid (SS HU.out u8);have C8:=Lib.hid c8;clear u8 c8 hnm;have UX:=Lib.hid (U8.out.skip' (.cells #[.int .i64 nu] 3 (0,0)));have HN:=Lib.hid (kF (news:=[.int .i64 nu]) (w:=w8.alloc (.cells #[.int .i64 nu] 3 (0,0))) (b:=w8.heap.size) (T:=3) (fr:=(0,0)) (aV rfl)))
      | (at_builtin;refine cO rfl (.tmp 97) (.tmp 102) 41 rfl 3 1 8 (.int .i64 0) Tryz.underlying41 Tryz.kG rfl (by decide) (.slice XO k S_) k (ints (TL.take k)) hh rfl H1.out UX.out.au.right.left ⟨w8.heap.size,0,none⟩ 1 1 [.int .i64 nu] rfl HN.out rfl (by intro u hu;simp at hu;subst hu;rfl) (Or.inl (by decide)) (by unfold maxLen;omega) (by omega) ?_;intro v' w9 hX' hS' qG;have U9:=Lib.hid (Vz UX.out qG);have S9:=Lib.hid hS';clear hS' qG))
     go_roundw
     case rel=>exact⟨k+1,_,by omega,by go_num,rfl,Lib.hid ⟨hX',h8,hTk.out _ _ S9.out,C8.out,U9.out⟩⟩
     case measure=>simp[intOf];omega
    ·have e1:TL.take k=TL:=List.take_of_length_le (by rw[hnl.out.1];omega)
     rw[e1,hnl.out.1]at s1
     obtain⟨XO,S_,rfl,Xf⟩:=s1.shape
     have t2:=s1.rY
     have hc2:=fun W=>Iy (.slice XO T S_) T (ints TL) W hh s1 (by omega)
     have T2:=Lib.hid t2
     have HU:=Lib.hid u1
     have HC:=Lib.hid c1
     clear s1 t2 u1 c1 HK e1
     generalize rY (.slice XO T S_)=vfin at*
     go_wp2_with(first
      | (go_at_call 66;refine Calls.mono (hc1 _) ?_;rintro e w8 ⟨rfl,rfl⟩)
      | (go_at_call 63;refine Calls.mono (hc2 _) ?_;rintro e w9 ⟨rfl,rfl⟩))
     go_ret2
     exact⟨_,_,rows,hn,hh,h',rfl,R1.out,R2.out,R3.out,(by rw[HTL.out,hT];exact T2.out),HC.out,HU.out.forget (List.Sublist.append ((List.sublist_append_right hl _).trans (List.sublist_append_right h7 _)) (List.Sublist.refl _))⟩
end Go.Proofs.YtibemcgdmembeaaGreat
namespace Go.Proofs.YtibemcgdmembeaaGreat
open Go.RowKit
def mV(w:World)(v:Value)(l:List qB):Prop:= ∃(rows:List iK) (hn:Hp),aK 79 2 v rows.length (rows.flatMap iK.cells) hn/\In w hn/\ (∀r∈rows,r.Ok/\In w r.hp/\In w r.hs)/\rows.map iK.node=l
def pK(w:World)(v:Value)(l:List Int):Prop:= ∃h,aK 3 1 v l.length (ints l) h/\In w h
theorem mV.shape{w:World}{v:Value}{l:List qB}(h:mV w v l): ∃ao cap,v= .slice ao l.length cap:=by
 obtain⟨rows,hn,h1,h2,h3,h4⟩:=h
 obtain⟨ao,cap,e,_⟩:=h1.shape
 rw[<-h4,List.length_map]
 exact⟨ao,cap,e⟩
theorem mV.at{w:World}{ao:Option Addr}{n cap:Nat}{l:List qB}(h:mV w (.slice ao n cap) l){i:Nat}(hi:i<l.length):
  ∃g off ap cp ac cs,ao=some ⟨g,off,none⟩/\w.cell? ⟨g,off+i*2,none⟩=some (.slice ap (l.getD i nd0).ptrs.length cp)/\w.cell? ⟨g,off+i*2+1,none⟩=some (.slice ac (l.getD i nd0).iD.length cs)/\
   (∀k,k<(l.getD i nd0).ptrs.length-> ∃gp op,ap=some ⟨gp,op,none⟩/\w.cell? ⟨gp,op+k,none⟩=some (.int .i64 ((l.getD i nd0).ptrs.getD k 0)))/\
   (∀k,k<(l.getD i nd0).iD.length-> ∃gp op,ac=some ⟨gp,op,none⟩/\w.cell? ⟨gp,op+k,none⟩=some (.int .u64 ((l.getD i nd0).iD.getD k 0))):=by
 obtain⟨rows,hn,h1,h2,h3,h4⟩:=h
 subst h4
 rw[List.length_map]at hi
 have hnl:n=rows.length:=by
  obtain⟨ao',cap',e,_⟩:=h1.shape
  injection e
 obtain⟨g,off,cap',hv,_⟩:=h1.addr (by omega)
 simp only[Value.slice.injEq]at hv
 obtain⟨hv1,_⟩:=hv
 have hr:rows[i]? =some rows[i]:=List.getElem?_eq_getElem hi
 have e0:(rows.map iK.node).getD i nd0=rows[i].node:=by simp[List.getD,hi]
 rw[e0]
 obtain⟨hok,ip,isc⟩:=h3 rows[i] (List.getElem_mem hi)
 generalize rows[i]=r at*
 obtain⟨ap,cp,evp,_⟩:=hok.p.shape
 obtain⟨ac,cs,evs,_⟩:=hok.s.shape
 have key: ∀j,j<2->w.cell? ⟨g,off+(i*2+j),none⟩=(iK.cells r)[j]? :=by
  intro j hj
  have hl:i*2+j<(rows.flatMap iK.cells).length:=by rw[N_];omega
  have:=h1.cell h2 (g:=g) (off:=off) (cap:=cap) (by rw[hv1,hnl]) hl
  rw[this]
  have h5:=N9 rows i j hj
  rw[hr,List.getElem?_eq_getElem hl]at h5
  exact h5
 refine⟨g,off,ap,cp,ac,cs,hv1, ?_, ?_, ?_, ?_⟩
 ·rw[<-evp];exact key 0 (by omega)
 ·rw[<-evs,Nat.add_assoc];exact key 1 (by omega)
 ·intro k hk
  have:=hok.p
  rw[evp]at this
  exact aK.nH (kd:= .i64) this ip hk
 ·intro k hk
  have:=hok.s
  rw[evs]at this
  exact aK.nH (kd:= .u64) this isc hk
theorem pK.at{w:World}{ao:Option Addr}{n cap:Nat}{l:List Int}(h:pK w (.slice ao n cap) l){i:Nat}(hi:i<l.length): ∃g off,ao=some ⟨g,off,none⟩/\w.cell? ⟨g,off+i,none⟩=some (.int .i64 (l.getD i 0)):=by
 obtain⟨hh,h1,h2⟩:=h
 have hnl:n=l.length:=by
  obtain⟨ao',cap',e,_⟩:=h1.shape
  injection e
 subst hnl
 exact aK.nH (kd:= .i64) h1 h2 hi
theorem pK.shape{w:World}{v:Value}{l:List Int}(h:pK w v l): ∃ao cap,v= .slice ao l.length cap:=by
 obtain⟨hh,h1,h2⟩:=h
 obtain⟨ao,cap,e,_⟩:=h1.shape
 exact⟨ao,cap,e⟩
end Go.Proofs.YtibemcgdmembeaaGreat
namespace Go.Proofs.YtibemcgdmembeaaGreat
open Go.RowKit
theorem aj.wG{w w':World}{h':Hp}(u:aj [] h' w w'){b o:Nat}{v:Value}(hc:w.cell? ⟨b,o,none⟩=some v):w'.cell? ⟨b,o,none⟩=some v:=by
 rw[u.below.cell (p:=⟨b,o,none⟩) (World.block_lt_of_cell? w _ hc)]
 exact hc
theorem Qs(va vx vb vy:Value)(l:List qB)(y:List Int)(hl:l.length<=1000000)(hy:y.length<=1000000)(hsz: ∀n∈l,n.ptrs.length<=64/\n.iD.length<=64)(w:World)(ha:mV w va l)(hx:pK w vx y)(hb:mV w vb l)(Zf:pK w vy y):
  Calls Tryz.prog 25 #[va,vx,vb,vy] w fun e w'=>e= .returned (.bool true)/\aj [] [] w w':=by
 obtain⟨aa,ca,rfl⟩:=ha.shape
 obtain⟨ax,cx,rfl⟩:=hx.shape
 obtain⟨ab,cb,rfl⟩:=hb.shape
 obtain⟨ay,cy,rfl⟩:=Zf.shape
 have HA:=Lib.hid (fun i (hi:i<l.length)=>ha.at hi)
 have HB:=Lib.hid (fun i (hi:i<l.length)=>hb.at hi)
 have HX:=Lib.hid (fun i (hi:i<y.length)=>hx.at hi)
 have HY:=Lib.hid (fun i (hi:i<y.length)=>Zf.at hi)
 have HZ:Hid (∀i,i<l.length->(l.getD i nd0).ptrs.length<=64/\ (l.getD i nd0).iD.length<=64):=Lib.hid (fun i hi=>hsz _ (by rw[List.getD_eq_getElem?_getD,List.getElem?_eq_getElem hi];exact List.getElem_mem hi))
 have U0:Hid (aj [] [] w w):=Lib.hid (aj.refl (In.nil w))
 clear ha hb hx Zf hsz
 generalize hn:l.length=n at*
 generalize hm:y.length=m at*
 go_enter Tryz.func25,Tryz.ntmps25
 go_wp2
 go_loopw [9] (fun i wr=> ∃k:Nat,k<=m/\i= .int .i64 k/\Hid (aj [] [] w wr)) (fun i _=>m-(intOf i).toNat)
 case atStart=>exact⟨0,by omega,rfl,U0⟩
 case round=>
  obtain⟨k,hk,rfl,HK⟩:=hrel
  clear U0
  by_cases hkm:k<m
  ·obtain⟨g1,o1,rfl,c1⟩:=HX.out k hkm
   obtain⟨g2,o2,rfl,c2⟩:=HY.out k hkm
   have d1:=HK.out.wG c1
   have d2:=HK.out.wG c2
   clear c1 c2
   generalize y.getD k 0=z at*
   go_wp2
   go_quiet (fail)
   have UN:=Lib.hid (HK.out.drewN' nq)
   go_wp2
   go_roundw
   case rel=>exact⟨k+1,by omega,by go_num,UN⟩
   case measure=>simp[intOf];omega
  ·have U1:=HK
   clear HK
   go_wp2
   go_loopw [10] (fun i wr=> ∃j:Nat,j<=n/\i= .int .i64 j/\Hid (aj [] [] w wr)) (fun i _=>n-(intOf i).toNat)
   case atStart=>exact⟨0,by omega,rfl,U1⟩
   case round=>
    obtain⟨j,hj,rfl,HJ⟩:=hrel
    clear U1
    by_cases hjn:j<n
    ·obtain⟨ga,oa,ap,cp,ac,cs,rfl,a1,a2,a3,a4⟩:=HA.out j hjn
     obtain⟨gb,ob,bp,cq,bc,ct,rfl,b1,b2,b3,b4⟩:=HB.out j hjn
     obtain⟨z1,z2⟩:=HZ.out j hjn
     generalize l.getD j nd0=nd at*
     obtain⟨P,S⟩:=nd
     simp only at a1 a2 a3 a4 b1 b2 b3 b4 z1 z2
     generalize hp:P.length=p at*
     generalize hq:S.length=q at*
     have HF:=Lib.hid (fun W (u:aj [] [] w W)=>(⟨u.wG a1,u.wG a2,u.wG b1,u.wG b2⟩:W.cell? ⟨ga,oa+j*2,none⟩=some (.slice ap p cp)/\W.cell? ⟨ga,oa+j*2+1,none⟩=some (.slice ac q cs)/\W.cell? ⟨gb,ob+j*2,none⟩=some (.slice bp p cq)/\W.cell? ⟨gb,ob+j*2+1,none⟩=some (.slice bc q ct)))
     have A3:=Lib.hid a3
     have A4:=Lib.hid a4
     have B3:=Lib.hid b3
     have B4:=Lib.hid b4
     obtain⟨d1,d2,d3,d4⟩:=HF.out _ HJ.out
     clear a1 a2 a3 a4 b1 b2 b3 b4
     go_wp2
     go_quiet (fail)
     have U2:=Lib.hid (HJ.out.drewN' nq)
     clear d1 d2 d3 d4 HJ
     go_wp2
     go_loopw [11] (fun i wr=> ∃x:Nat,x<=p/\i= .int .i64 x/\Hid (aj [] [] w wr)) (fun i _=>p-(intOf i).toNat)
     case atStart=>exact⟨0,by omega,rfl,U2⟩
     case round=>
      obtain⟨x,hxp,rfl,Ls⟩:=hrel
      clear U2
      obtain⟨d1,d2,d3,d4⟩:=HF.out _ Ls.out
      by_cases hxl:x<p
      ·obtain⟨g1,o1,rfl,c1⟩:=A3.out x hxl
       obtain⟨g2,o2,rfl,c2⟩:=B3.out x hxl
       have e1:=Ls.out.wG c1
       have e2:=Ls.out.wG c2
       clear c1 c2
       generalize P.getD x 0=z at*
       go_wp2
       go_quiet (fail)
       have UN:=Lib.hid (Ls.out.drewN' nq)
       clear d1 d2 d3 d4 e1 e2
       go_wp2
       go_roundw
       case rel=>exact⟨x+1,by omega,by go_num,UN⟩
       case measure=>simp[intOf];omega
      ·go_wp2
       clear d1 d2 d3 d4
       go_loopw [12] (fun i wr=> ∃x:Nat,x<=q/\i= .int .i64 x/\Hid (aj [] [] w wr)) (fun i _=>q-(intOf i).toNat)
       case atStart=>exact⟨0,by omega,rfl,Ls⟩
       case round=>
        clear Ls
        obtain⟨v,hvq,rfl,Ls⟩:=hrel
        obtain⟨d1,d2,d3,d4⟩:=HF.out _ Ls.out
        by_cases hvl:v<q
        ·obtain⟨g1,o1,rfl,c1⟩:=A4.out v hvl
         obtain⟨g2,o2,rfl,c2⟩:=B4.out v hvl
         have e1:=Ls.out.wG c1
         have e2:=Ls.out.wG c2
         clear c1 c2
         generalize S.getD v 0=z at*
         go_wp2
         go_quiet (fail)
         have UN:=Lib.hid (Ls.out.drewN' nq)
         clear d1 d2 d3 d4 e1 e2
         go_wp2
         go_roundw
         case rel=>exact⟨v+1,by omega,by go_num,UN⟩
         case measure=>simp[intOf];omega
        ·go_wp2
         clear d1 d2 d3 d4
         go_roundw
         case rel=>exact⟨j+1,by omega,by go_num,Ls⟩
         case measure=>simp[intOf];omega
    ·go_wp2
     go_ret
     exact⟨by first|rfl|trivial,HJ.out⟩
end Go.Proofs.YtibemcgdmembeaaGreat
