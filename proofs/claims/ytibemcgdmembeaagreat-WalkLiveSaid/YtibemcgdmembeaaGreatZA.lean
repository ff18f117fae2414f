/- What each call of package arena comes to. Conditions: none beyond an arena of at most 2^20 words. -/
import Derived.WalkKit
import Derived.WalkSpells
import Derived.WalkLawsBesides
import Derived.Deep.Draws
import Derived.StillTailTactics
import Derived.Lib.Hide
import Derived.Test.YtibemcgdmembeaaGreatRows
import Derived.MapKept
import Derived.RangeFuncRecord
import Derived.ArgAppend
import Derived.Laws.CopyRow
import Derived.Laws.MakeOwn
import Derived.Deep.QuietTactic
import Derived.BigQuiet
import Derived.Laws.CopyOwn
import Derived.Deep.RegionHeld3
set_option linter.unusedVariables false
set_option linter.unusedSimpArgs false
set_option maxRecDepth 100000
set_option maxHeartbeats 4000000
namespace Go.Proofs.YtibemcgdmembeaaGreat
open Go.RowKit
abbrev Hp:=List (Nat×Obj)
def In(w:World)(h:Hp):Prop:=(h.map Prod.fst).Nodup/\ ∀x∈h,w.heap[x.1]? =some x.2
structure aj(h h':Hp)(w w':World):Prop where
 au:In w' h'
 os:w'.os=w.os
 tape:w'.tape=w.tape
 output:w'.output=w.output
 size:w.heap.size<=w'.heap.size
 frame: ∀b,b<w.heap.size->b∉h.map Prod.fst->w'.heap[b]? =w.heap[b]?
 fresh: ∀b,b∈h'.map Prod.fst->b∈h.map Prod.fst∨w.heap.size<=b
theorem In.lt{w:World}{h:Hp}(hi:In w h){b:Nat}(hb:b∈h.map Prod.fst):b<w.heap.size:=by
 obtain⟨x,hx,rfl⟩:=List.mem_map.1 hb
 have:=hi.2 x hx
 exact(Array.getElem?_eq_some_iff.1 this).1
theorem In.nil(w:World):In w []:=⟨List.nodup_nil,by simp⟩
theorem In.sub{w:World}{h k:Hp}(hi:In w h)(hs:k.Sublist h):In w k:=
 ⟨hi.1.sublist (hs.map _),fun x hx=>hi.2 x (hs.mem hx)⟩
theorem In.left{w:World}{h k:Hp}(hi:In w (h++k)):In w h:=hi.sub (List.sublist_append_left _ _)
theorem In.right{w:World}{h k:Hp}(hi:In w (h++k)):In w k:=hi.sub (List.sublist_append_right _ _)
theorem In.tail{w:World}{x:Nat×Obj}{k:Hp}(hi:In w (x::k)):In w k:=hi.sub (List.sublist_cons_self _ _)
theorem In.head{w:World}{b:Nat}{o:Obj}{k:Hp}(hi:In w ((b,o)::k)):w.heap[b]? =some o:=hi.2 (b,o) (List.mem_cons_self ..)
theorem In.perm{w:World}{h k:Hp}(hi:In w h)(hp:h.Perm k):In w k:=
 ⟨(hp.map _).nodup_iff.1 hi.1,fun x hx=>hi.2 x (hp.mem_iff.2 hx)⟩
theorem zT{α:Type}{l:List (List α)}: ∀{i:Nat} {x:List α},l[i]? =some x->x.Sublist l.flatten:=by
 induction l with
 |nil=>intro i x h;simp at h
 |cons y l ih=>
  intro i x h
  cases i with
  |zero=>simp at h;subst h;simp
  |succ i=>simp at h;simp;exact(ih h).trans (List.sublist_append_right _ _)
theorem In.part{w:World}{l:List Hp}(hi:In w l.flatten){i:Nat}{x:Hp}(h:l[i]? =some x):In w x:=hi.sub (zT h)
theorem cell_of{w:World}{b:Nat}{arr:Array Value}{T:TypeId}{fr:Nat×Nat}(h:w.heap[b]? =some (.cells arr T fr))(i:Nat):
  w.cell? ⟨b,i,none⟩=arr[i]? :=by simp[World.cell?,h]
theorem aO{w:World}{b:Nat}{arr:Array Value}{T:TypeId}(h:w.heap[b]? =some (.cells arr T (0,0)))(i:Nat):
  w.frozen? ⟨b,i,none⟩=false:=by simp[World.frozen?,h]
theorem aj.refl{w:World}{h:Hp}(hi:In w h):aj h h w w:=⟨hi,rfl,rfl,rfl,Nat.le_refl _,fun _ _ _=>rfl,fun _ hb=> .inl hb⟩
theorem aj.trans{w w1 w2:World}{h h1 h2:Hp}(a:aj h h1 w w1)(b:aj h1 h2 w1 w2):aj h h2 w w2 where
 au:=b.au
 os:=b.os.trans a.os
 tape:=b.tape.trans a.tape
 output:=b.output.trans a.output
 size:=Nat.le_trans a.size b.size
 frame:=fun k hk hn=>by
  rw[b.frame k (Nat.lt_of_lt_of_le hk a.size) ?_,a.frame k hk hn]
  intro hc
  rcases a.fresh k hc with hc|hc
  ·exact hn hc
  ·omega
 fresh:=fun k hk=>by
  rcases b.fresh k hk with h|h
  ·exact a.fresh k h
  ·exact .inr (Nat.le_trans a.size h)
theorem In.kept{w w':World}{h h' k:Hp}(u:aj h h' w w')(hi:In w (h++k)):In w' (h'++k):=by
 refine⟨?_, ?_⟩
 ·rw[List.map_append,List.nodup_append]
  refine⟨u.au.1,hi.right.1, ?_⟩
  intro a ha b hb e
  subst e
  rcases u.fresh a ha with h1|h1
  ·have:=hi.1
   rw[List.map_append,List.nodup_append]at this
   exact this.2.2 a h1 a hb rfl
  ·have:=hi.right.lt hb
   omega
 ·intro x hx
  rcases List.mem_append.1 hx with hx|hx
  ·exact u.au.2 x hx
  ·have hb:x.1∈k.map Prod.fst:=List.mem_map_of_mem hx
   rw[u.frame x.1 (hi.right.lt hb) ?_]
   ·exact hi.right.2 x hx
   ·intro hc
    have:=hi.1
    rw[List.map_append,List.nodup_append]at this
    exact this.2.2 _ hc _ hb rfl
theorem aj.beside{w w':World}{h h' k:Hp}(u:aj h h' w w')(hi:In w (h++k)):aj (h++k) (h'++k) w w' where
 au:=In.kept u hi
 os:=u.os
 tape:=u.tape
 output:=u.output
 size:=u.size
 frame:=fun b hb hn=>u.frame b hb (fun hc=>hn (by simp at*;rcases hc with⟨o,ho⟩;exact .inl ⟨o,ho⟩))
 fresh:=fun b hb=>by
  rw[List.map_append,List.mem_append]at hb
  rcases hb with hb|hb
  ·rcases u.fresh b hb with h1|h1
   ·exact .inl (by rw[List.map_append,List.mem_append];exact .inl h1)
   ·exact .inr h1
  ·exact .inl (by rw[List.map_append,List.mem_append];exact .inr hb)
theorem aj.perm{w w':World}{h h' k k':Hp}(u:aj h h' w w')(p:h.Perm k)(p':h'.Perm k'):aj k k' w w' where
 au:=u.au.perm p'
 os:=u.os
 tape:=u.tape
 output:=u.output
 size:=u.size
 frame:=fun b hb hn=>u.frame b hb (fun hc=>hn ((p.map _).mem_iff.1 hc))
 fresh:=fun b hb=>by
  rcases u.fresh b ((p'.map _).mem_iff.2 hb)with h1|h1
  ·exact .inl ((p.map _).mem_iff.1 h1)
  ·exact .inr h1
theorem kR{α:Type}{l:List (List α)}: ∀{i:Nat} {x:List α} (y:List α),l[i]? =some x->(l.set i y).flatten.Perm (y++(l.eraseIdx i).flatten):=by
 induction l with
 |nil=>intro i x y h;simp at h
 |cons z l ih=>
  intro i x y h
  cases i with
  |zero=>simp
  |succ i=>
   simp at h
   simp only[List.set_cons_succ,List.flatten_cons,List.eraseIdx_cons_succ]
   exact((ih y h).append_left z).trans (by
    rw[<-List.append_assoc,<-List.append_assoc]
    exact(List.perm_append_comm).append_right _)
theorem set_self{α:Type}{l:List α}: ∀{i:Nat} {x:α},l[i]? =some x->l.set i x=l:=by
 induction l with
 |nil=>intro i x h;simp at h
 |cons z l ih=>
  intro i x h
  cases i with
  |zero=>simp at h;subst h;rfl
  |succ i=>simp at h;simp[ih h]
theorem kS{α:Type}{l:List (List α)}{i:Nat}{x:List α}(h:l[i]? =some x):l.flatten.Perm (x++(l.eraseIdx i).flatten):=by
 have:=kR x h
 rwa[set_self h]at this
theorem aj.part{w w':World}{l:List Hp}{i:Nat}{x y:Hp}(hi:In w l.flatten)(h:l[i]? =some x)(u:aj x y w w'):aj l.flatten (l.set i y).flatten w w':=by
 have p:=kS h
 have q:=kR y h
 exact(u.beside (hi.perm p)).perm p.symm q.symm
theorem aj.fH{w0 w w':World}{h:Hp}{l:List Hp}{i:Nat}{x y:Hp}(a:aj h l.flatten w0 w)(hx:l[i]? =some x)(u:aj x y w w'):aj h (l.set i y).flatten w0 w':=
 a.trans (aj.part a.au hx u)
theorem heap_setCell_same{w:World}{b off:Nat}{v:Value}{arr:Array Value}{T:TypeId}{fr:Nat×Nat}(h:w.heap[b]? =some (.cells arr T fr)):
  (w.setCell ⟨b,off,none⟩ v).heap[b]? =some (.cells (arr.setIfInBounds off v) T fr):=by
 simp[World.setCell,Array.getElem?_modify,h]
theorem heap_setCell_other{w:World}{a:Addr}{v:Value}{b:Nat}(h:b≠a.block):(w.setCell a v).heap[b]? =w.heap[b]? :=by
 simp only[World.setCell,Array.getElem?_modify]
 rw[if_neg (by omega)]
theorem heap_alloc_old{w:World}{o:Obj}{b:Nat}(h:b<w.heap.size):(w.alloc o).heap[b]? =w.heap[b]? :=by
 show(w.heap.push o)[b]? =_
 rw[Array.getElem?_push,if_neg (by omega)]
theorem heap_alloc_new{w:World}{o:Obj}:(w.alloc o).heap[w.heap.size]? =some o:=by
 show(w.heap.push o)[w.heap.size]? =_
 simp
theorem aj.store{w:World}{l r:Hp}{b off:Nat}{v:Value}{arr:Array Value}{T:TypeId}{fr:Nat×Nat}(hi:In w (l++(b, .cells arr T fr)::r)):
  aj (l++(b, .cells arr T fr)::r) (l++(b, .cells (arr.setIfInBounds off v) T fr)::r) w (w.setCell ⟨b,off,none⟩ v)where
 au:=by
  have hn:=hi.1
  have hne: ∀x∈l++r,x.1≠b:=by
   intro x hx e
   simp only[List.map_append,List.map_cons,List.nodup_append,List.nodup_cons]at hn
   rcases List.mem_append.1 hx with hx|hx
   ·exact hn.2.2 x.1 (List.mem_map_of_mem hx) b (List.mem_cons_self ..) e
   ·exact hn.2.1.1 (e▸List.mem_map_of_mem hx)
  refine⟨by simpa using hn, ?_⟩
  intro x hx
  rcases List.mem_append.1 hx with hx|hx
  ·rw[heap_setCell_other (by exact hne x (List.mem_append_left _ hx))]
   exact hi.2 x (List.mem_append_left _ hx)
  ·rcases List.mem_cons.1 hx with rfl|hx
   ·exact heap_setCell_same (hi.2 (b, .cells arr T fr) (List.mem_append_right _ (List.mem_cons_self ..)))
   ·rw[heap_setCell_other (by exact hne x (List.mem_append_right _ hx))]
    exact hi.2 x (List.mem_append_right _ (List.mem_cons_of_mem _ hx))
 os:=rfl
 tape:=rfl
 output:=rfl
 size:=by simp
 frame:=fun k hk hn=>heap_setCell_other (by
  intro e
  subst e
  exact hn (by simp))
 fresh:=fun k hk=> .inl (by simpa using hk)
theorem aj.alloc{w:World}{h:Hp}(hi:In w h)(o:Obj):aj h ((w.heap.size,o)::h) w (w.alloc o)where
 au:=by
  refine⟨?_, ?_⟩
  ·simp only[List.map_cons,List.nodup_cons]
   refine⟨fun hc=> ?_,hi.1⟩
   have:=hi.lt hc
   omega
  ·intro x hx
   rcases List.mem_cons.1 hx with rfl|hx
   ·exact heap_alloc_new
   ·rw[heap_alloc_old (hi.lt (List.mem_map_of_mem hx))]
    exact hi.2 x hx
 os:=rfl
 tape:=rfl
 output:=rfl
 size:=by simp
 frame:=fun k hk _=>heap_alloc_old hk
 fresh:=fun k hk=>by
  simp only[List.map_cons,List.mem_cons]at hk
  rcases hk with rfl|hk
  ·exact .inr (Nat.le_refl _)
  ·exact .inl hk
theorem aj.forget{w w':World}{h h' k:Hp}(u:aj h h' w w')(s:k.Sublist h'):aj h k w w' where
 au:=u.au.sub s
 os:=u.os
 tape:=u.tape
 output:=u.output
 size:=u.size
 frame:=u.frame
 fresh:=fun b hb=>u.fresh b ((s.map _).mem hb)
theorem aj.skip{w:World}{h:Hp}(hi:In w h)(o:Obj):aj h h w (w.alloc o):=(aj.alloc hi o).forget (List.sublist_cons_self _ _)
theorem In.drewN{w:World}{h:Hp}(hi:In w h)(n:Nat):In (w.drewN n) h:=hi
theorem aj.drewN{w:World}{h:Hp}(hi:In w h)(n:Nat):aj h h w (w.drewN n):=⟨hi,rfl,rfl,rfl,Nat.le_refl _,fun _ _ _=>rfl,fun _ hb=> .inl hb⟩
theorem aj.drew{w:World}{h:Hp}(hi:In w h):aj h h w w.drew:=⟨hi,rfl,rfl,rfl,Nat.le_refl _,fun _ _ _=>rfl,fun _ hb=> .inl hb⟩
theorem aj.store'{w0 w:World}{h l r:Hp}{b:Nat}{arr:Array Value}{T:TypeId}{fr:Nat×Nat}(a:aj h (l++(b, .cells arr T fr)::r) w0 w)(off:Nat)(v:Value):
  aj h (l++(b, .cells (arr.setIfInBounds off v) T fr)::r) w0 (w.setCell ⟨b,off,none⟩ v):=a.trans (aj.store a.au)
theorem aj.alloc'{w0 w:World}{h k:Hp}(a:aj h k w0 w)(o:Obj):aj h ((w.heap.size,o)::k) w0 (w.alloc o):=a.trans (aj.alloc a.au o)
theorem aj.skip'{w0 w:World}{h k:Hp}(a:aj h k w0 w)(o:Obj):aj h k w0 (w.alloc o):=a.trans (aj.skip a.au o)
theorem aj.drew'{w0 w:World}{h k:Hp}(a:aj h k w0 w):aj h k w0 w.drew:=a.trans (aj.drew a.au)
theorem aj.drewN'{w0 w:World}{h k:Hp}(a:aj h k w0 w)(n:Nat):aj h k w0 (w.drewN n):=a.trans (aj.drewN a.au n)
theorem aj.block{w w':World}{h h':Hp}(u:aj h h' w w'){b:Nat}{o:Obj}(hb:w.heap[b]? =some o)(hn:b∉h.map Prod.fst):w'.heap[b]? =some o:=by
 rw[u.frame b (Array.getElem?_eq_some_iff.1 hb).1 hn]
 exact hb
theorem aj.below{w w':World}{h':Hp}(u:aj [] h' w w'):Below w.heap.size w w':=
 ⟨u.os,u.tape,u.output,u.size,fun k hk=>u.frame k hk (by simp)⟩
theorem eP{P:Program}{id:Nat}{Q:Exit->Act->World->Prop}{a:Act}{w:World}{l:List Oper}(n:Nat)(hm:P.follows .mixedOrders=true)(hB:Region.lexTailB .any l.toArray n=true)
  (h: ∀w1,w1=w.drew->wpStill P l.toArray w1 (fun a'=>wpList P l.toArray Q (l.drop n) a' w1) (l.take n) a):(Code.region id l.toArray true).wp P Q a w:=
 wp_region_still_tail n hm hB (h w.drew rfl)
theorem fQ{P:Program}{id:Nat}{Q:Exit->Act->World->Prop}{a:Act}{w:World}{l:List Oper}(hm:P.follows .mixedOrders=true)(hB:Region.lexB .any l.toArray=true)
  (h: ∀w1,w1=w.drew->wpStill P l.toArray w1 (fun a'=>Q .normal a' w1) l a):(Code.region id l.toArray true).wp P Q a w:=
 wp_region_still_lit hm hB (h w.drew rfl)
def I64(x:Int):Prop:= -9223372036854775808<=x/\x<=9223372036854775807
theorem I64.mk{x:Int}(h: -9223372036854775808<=x)(h':x<=9223372036854775807):I64 x:=⟨h,h'⟩
theorem I64.small{x:Int}(h: -1000000000000<=x)(h':x<=1000000000000):I64 x:=⟨by omega,by omega⟩
theorem I64.wrap(x:Int):I64 (wrap64 x):=by unfold wrap64 I64;omega
theorem pq{x:Int}(h:I64 x):wrap64 x=x:=by unfold I64 at h;unfold wrap64;omega
theorem aj.zi{w w':World}{h':Hp}(u:aj [] h' w w'){b:Nat}{o:Obj}(hb:w.heap[b]? =some o):w'.heap[b]? =some o:=u.block hb (by simp)
theorem aV{w:World}{o:Obj}{k:Nat}(h:k=w.heap.size):(w.alloc o).heap[k]? =some o:=h▸heap_alloc_new
theorem aj.XR{w w':World}{h h':Hp}(u:aj h h' w w'){a:Addr}(ha:w.heap.size<=a.block)(hn:a.block∉h'.map Prod.fst)(v:Value):aj h h' w (w'.setCell a v)where
 au:=⟨u.au.1,fun x hx=>by
  rw[heap_setCell_other (fun e=>hn (e▸List.mem_map_of_mem hx))]
  exact u.au.2 x hx⟩
 os:=u.os
 tape:=u.tape
 output:=u.output
 size:=by simpa using u.size
 frame:=fun b hb hh=>by rw[heap_setCell_other (by omega)];exact u.frame b hb hh
 fresh:=u.fresh
theorem aj.lN{w w':World}{h:Hp}(u:aj h [] w w'){b o:Nat}(ha:w.heap.size<=b)(v:Value):aj h [] w (w'.setCell ⟨b,o,none⟩ v):=u.XR ha (by simp) v
structure Aside(w:World)(h:Hp)(k:Nat)(o:Obj):Prop where
 blk:w.heap[k]? =some o
 out:k∉h.map Prod.fst
theorem Aside.alloc{w:World}{h:Hp}(hi:In w h)(o:Obj):Aside (w.alloc o) h w.heap.size o:=
 ⟨heap_alloc_new,fun hc=>by have:=hi.lt hc;omega⟩
theorem Aside.drew{w:World}{h:Hp}{k:Nat}{o:Obj}(a:Aside w h k o):Aside w.drew h k o:=⟨a.blk,a.out⟩
theorem In.alloc{w:World}{h:Hp}(hi:In w h)(o:Obj):In (w.alloc o) h:=(aj.skip hi o).au
theorem In.drew{w:World}{h:Hp}(hi:In w h):In w.drew h:=hi
theorem Aside.lt{w:World}{h:Hp}{k:Nat}{o:Obj}(a:Aside w h k o):k<w.heap.size:=(Array.getElem?_eq_some_iff.1 a.blk).1
theorem aj.under{w0 w w':World}{h0 h h':Hp}{x:Nat×Obj}(a:aj h0 (x::h) w0 w)(u:aj h h' w w'):aj h0 (x::h') w0 w':=by
 have hi:In w (h++[x]):=a.au.perm (by simpa using(List.perm_append_comm (l₁:=[x]) (l₂:=h)))
 have u2:=u.beside (k:=[x]) hi
 exact a.trans (u2.perm (by simp) (by simp))
theorem aj.dK{w0 w w':World}{h0 h:Hp}(a:aj h0 h w0 w)(u:aj [] [] w w'):aj h0 h w0 w':=by
 have:=u.beside (k:=h) a.au
 exact a.trans (by simpa using this)
theorem aj.drop1{w w':World}{h h':Hp}{x:Nat×Obj}(u:aj h (x::h') w w'):aj h h' w w':=u.forget (List.sublist_cons_self _ _)
theorem aj.store1{w0 w:World}{h r:Hp}{b:Nat}{arr:Array Value}{T:TypeId}{fr:Nat×Nat}(a:aj h ((b, .cells arr T fr)::r) w0 w)(off:Nat)(v:Value):
  aj h ((b, .cells (arr.setIfInBounds off v) T fr)::r) w0 (w.setCell ⟨b,off,none⟩ v):=aj.store' (l:=[]) a off v
theorem aj.OV{w0 w:World}{h k:Hp}(a:aj h k w0 w)(o:Obj):aj h k w0 (w.alloc o):=a.skip' o
theorem aj.more{w0 w w':World}{h0 h h':Hp}(a:aj h0 h w0 w)(u:aj [] h' w w'):aj h0 (h'++h) w0 w':=by
 have:=u.beside (k:=h) (by simpa using a.au)
 exact a.trans (by simpa using this)
theorem In.mem{w:World}{h:Hp}(hi:In w h){b:Nat}{o:Obj}(hb:(b,o)∈h):w.heap[b]? =some o:=hi.2 _ hb
end Go.Proofs.YtibemcgdmembeaaGreat
namespace Go.Proofs.YtibemcgdmembeaaGreat
open Go.RowKit
theorem In.Us{w:World}{l r:Hp}{b:Nat}{o o':Obj}(hi:In w (l++(b,o)::r)):In (w.putObj b o') (l++(b,o')::r):=by
 have hlt:b<w.heap.size:=hi.lt (by simp)
 refine⟨by simpa using hi.1, ?_⟩
 intro x hx
 have hn:=hi.1
 rw[List.map_append,List.map_cons,List.nodup_append]at hn
 obtain⟨_,hn2,hn3⟩:=hn
 rw[List.nodup_cons]at hn2
 have hne:x∈l∨x∈r->x.1≠b:=by
  rintro(h|h) e
  ·exact hn3 x.1 (List.mem_map_of_mem h) b (by simp) e
  ·have:=List.mem_map_of_mem (f:=Prod.fst) h
   rw[e]at this
   exact hn2.1 this
 simp only[List.mem_append,List.mem_cons]at hx
 rcases hx with h|rfl|h
 ·rw[World.putObj_heap_other (hne (.inl h))];exact hi.2 x (by simp[h])
 ·exact World.putObj_heap_same hlt
 ·rw[World.putObj_heap_other (hne (.inr h))];exact hi.2 x (by simp[h])
theorem aj.Us{w:World}{l r:Hp}{b:Nat}{o:Obj}(hi:In w (l++(b,o)::r))(o':Obj):aj (l++(b,o)::r) (l++(b,o')::r) w (w.putObj b o')where
 au:=hi.Us
 os:=rfl
 tape:=rfl
 output:=rfl
 size:=by simp
 frame:=fun k hk hn=>World.putObj_heap_other (fun e=>hn (by simp[e]))
 fresh:=fun k hk=> .inl (by simpa using hk)
theorem aj.TD{w0 w:World}{h l r:Hp}{b:Nat}{o:Obj}(a:aj h (l++(b,o)::r) w0 w)(o':Obj):aj h (l++(b,o')::r) w0 (w.putObj b o'):=a.trans (aj.Us a.au o')
def Aw:List Int->Nat->List MapEntry
 |[],_=>[]
 |k::l,i=>{key:= .int .i64 k,val:= .bool true,born:=i}::Aw l (i+1)
def iG(l:List Int):Obj:= .map (Aw l 0).toArray l.length
theorem DK: ∀(l:List Int) (x:Int) (i:Nat),Aw (l++[x]) i=Aw l i++[{key:= .int .i64 x,val:= .bool true,born:=i+l.length}]
 |[],x,i=>rfl
 |k::l,x,i=>by
  simp only[List.cons_append,Aw,DK l x (i+1),List.length_cons]
  rw[show i+1+l.length=i+(l.length+1) by omega]
theorem uw{d:TypeDesc}(hd: ∀a b:Int,Instr.sameNow d (.int .i64 a) (.int .i64 b)=some (a==b))(x:Int): ∀(l:List Int) (i j:Nat),(x∈l-> ∃q,Instr.findNow d (.int .i64 x) (Aw l i) j=some (some (q, .bool true)))/\ (x∉l->Instr.findNow d (.int .i64 x) (Aw l i) j=some none)
 |[],i,j=>⟨fun h=>(by cases h),fun _=>rfl⟩
 |k::l,i,j=>by
  obtain⟨h1,h2⟩:=uw hd x l (i+1) (j+1)
  by_cases e:x=k
  ·subst e
   refine⟨fun _=>⟨j, ?_⟩,fun h=>absurd (List.mem_cons_self ..) h⟩
   simp[Aw,Instr.findNow,hd]
  ·have e2:(x==k)=false:=by simpa using e
   refine⟨fun h=> ?_,fun h=> ?_⟩
   ·obtain⟨q,hq⟩:=h1 ((List.mem_cons.1 h).resolve_left e)
    exact⟨q,by simp[Aw,Instr.findNow,hd,e2,hq]⟩
   ·have:=h2 (fun h3=>h (List.mem_cons_of_mem _ h3))
    simp[Aw,Instr.findNow,hd,e2,this]
theorem mapKey(x:Int):MapKept.IsKey (.int .i64) (.int .i64 x):=by first|exact⟨_,rfl⟩|exact⟨_,_,rfl⟩|simp[MapKept.IsKey]
theorem EM(w:World):(zeroValue 4).run Tryz.prog w= .ok (.bool false) w:=by kernel_rfl
theorem KH(w:World)(b:Nat)(l:List Int)(x:Int)(h:w.heap[b]? =some (iG l)):
  (Instr.lookup 112 (.map (some b)) (.int .i64 x) false).run Tryz.prog w= .ok (.bool (decide (x∈l))) w:=by
 have hg:=MapKept.run_getObj_map (P:=Tryz.prog) h
 have hc:=fun e n=>MapKept.run_checkKey (P:=Tryz.prog) (w:=w) Tryz.underlying3 (mapKey x) e n
 obtain⟨h1,h2⟩:=uw (d:= .int .i64) (fun a b=>by simp[Instr.sameNow]) x l 0 0
 by_cases hm:x∈l
 ·obtain⟨q,hq⟩:=h1 hm
  have hf:=MapKept.run_findKey (P:=Tryz.prog) (w:=w) Tryz.underlying3 hq
  simp[Instr.lookup,run_underlying Tryz.underlying112,hg,hc,hf,Result.andThen,hm]
 ·have hf:=MapKept.run_findKey (P:=Tryz.prog) (w:=w) Tryz.underlying3 (h2 hm)
  simp[Instr.lookup,run_underlying Tryz.underlying112,hg,hc,hf,Result.andThen,hm,EM]
theorem KI(w:World)(b:Nat)(l:List Int)(x:Int)(h:w.heap[b]? =some (iG l))(hx:x∉l):
  (Instr.mapUpdate 112 (.map (some b)) (.int .i64 x) (.bool true)).run Tryz.prog w= .ok () (w.putObj b (iG (l++[x]))):=by
 have hg:=MapKept.run_getObj_map (P:=Tryz.prog) h
 have hc:=fun e n=>MapKept.run_checkKey (P:=Tryz.prog) (w:=w) Tryz.underlying3 (mapKey x) e n
 obtain⟨h1,h2⟩:=uw (d:= .int .i64) (fun a b=>by simp[Instr.sameNow]) x l 0 0
 have hf:=MapKept.run_findKey (P:=Tryz.prog) (w:=w) Tryz.underlying3 (h2 hx)
 have hs:=fun o=>MapKept.run_setObj_map (P:=Tryz.prog) (w:=w) (r:=b) o h
 have e:iG (l++[x])= .map ((Aw l 0).toArray.push {key:= .int .i64 x,val:= .bool true,born:=l.length}) (l.length+1):=by
  unfold iG
  rw[DK]
  simp
 rw[e]
 simp[Instr.mapUpdate,run_underlying Tryz.underlying112,hg,hc,hf,hs,Result.andThen,World.putObj]
end Go.Proofs.YtibemcgdmembeaaGreat
namespace Go.Proofs.YtibemcgdmembeaaGreat
open Go.RowKit
def aK(T:TypeId)(size:Nat)(v:Value)(n:Nat)(xs:List Value)(h:Hp):Prop:=
 xs.length=n*size/\ ((v= .slice none 0 0/\n=0/\h=[])∨
  ∃(g:Nat) (pre post:List Value) (cap:Nat),v= .slice (some ⟨g,pre.length,none⟩) n cap/\h=[(g, .cells (pre++xs++post).toArray T (0,0))]/\n<=cap/\cap*size<=xs.length+post.length/\cap<=maxLen)
theorem su(b:Nat)(T:TypeId)(fr:Nat×Nat): ∀(vs:List Value) (o:Nat) (cur:Array Value) (w:World),w.heap[b]? =some (.cells cur T fr)->o+vs.length<=cur.size->
  w.setCells b o vs=w.setRow b (cur.toList.take o++vs++cur.toList.drop (o+vs.length)).toArray
 |[],o,cur,w,hb,_=>by
  simp only[World.setCells,List.append_nil,List.length_nil,Nat.add_zero,List.take_append_drop,Array.toArray_toList]
  exact(setRow_self w b cur T fr hb).symm
 |v::vs,o,cur,w,hb,hl=>by
  simp only[World.setCells]
  have hl':o+(vs.length+1)<=cur.size:=by simpa using hl
  rw[setCell_eq_setRow w b o cur T fr v hb]
  have ih:=su b T fr vs (o+1) (cur.setIfInBounds o v) (w.setRow b (cur.setIfInBounds o v)) (setRow_heap w b cur _ T fr hb) (by simp;omega)
  rw[ih,setRow_setRow]
  congr 2
  have e:=list_seg_step cur.toList o v vs (by simpa using hl')
  simpa[Array.toList_setIfInBounds,Nat.add_assoc]using e
theorem Az(pre xs old post news:List Value)(h:old.length=news.length):
  ((pre++xs++(old++post)).take (pre.length+xs.length)++news++(pre++xs++(old++post)).drop (pre.length+xs.length+news.length))=pre++(xs++news)++post:=by
 have e1:(pre++xs++(old++post)).take (pre.length+xs.length)=pre++xs:=by
  rw[show pre.length+xs.length=(pre++xs).length by simp]
  exact List.take_left
 have e2:(pre++xs++(old++post)).drop (pre.length+xs.length+news.length)=post:=by
  rw[<-h,show pre.length+xs.length+old.length=(pre++xs++old).length by simp;omega,<-List.append_assoc (pre++xs)]
  exact List.drop_left
 rw[e1,e2]
 simp
theorem cO{P:Program}{w:World}{ops:Array Oper}{rest:List Oper}{o:Oper}{a:Act}{Q:Exit->Act->World->Prop}
  (hg:o.guard=none)(s x:Operand)(t:TypeId)(hop:o.op=Op.call {callee:=Callee.builtin Builtin.append,args:=#[s,x],argTypes:=#[t,t]})
  (e:TypeId)(size bytes:Nat)(z:Value)(h1:P.underlying t=some (.slice e))(hinfo:(P.info? e).map (fun i=>(i.zero,i.size,i.bytes))=some (some z,size,bytes))(h6:z.cells.size=size)(h7:0<size)
  (v:Value)(n:Nat)(xs:List Value)(hX:Hp)(hs:a.eval s=v)(HS:aK e size v n xs hX)(hin:In w hX)
  (ad:Addr)(m c:Nat)(news:List Value)(hx:a.eval x= .slice (some ad) m c)(hc: ∀j u,news[j]? =some u->w.cell? (ad.add j)=some u)(hn:news.length=m*size)(h1c: ∀u∈news,u.oneCell'=true)(hm:0<m∨v≠ .slice none 0 0)
  (b1:n+m<=maxLen)(b2:(n+m)*bytes<=140737488355328)
  (hK: ∀v' w' hX',aK e size v' (n+m) (xs++news) hX'->aj hX hX' w w'->wpList P ops Q rest (a.put o.dst v') w'):wpList P ops Q (o::rest) a w:=by
 obtain⟨i,hi,hz0,hz1,hz2⟩:=info_parts hinfo
 obtain⟨hlen,HS⟩:=HS
 have hlen2:(xs++news).length=(n+m)*size:=by rw[List.length_append,hlen,hn,Nat.add_mul]
 rcases HS with⟨rfl,rfl,rfl⟩|⟨g,pre,post,cap,rfl,rfl,hnc,hcap,hcm⟩
 ·obtain rfl:xs=[]:=List.eq_nil_of_length_eq_zero (by simpa using hlen)
  have hm:0<m:=hm.resolve_right (by simp)
  refine wpList_append_grows w hg s x t hop e i z size bytes h1 hi hz0 hz1 hz2 h6 h7 none 0 0 [] hs (fun _=>⟨rfl,rfl⟩) (by simp) (by intro _ h;cases h) ad m c news hx hn hc h1c (by omega) b1 b2 ?_
  intro v' w' hown hgrow
  obtain⟨hl,hown⟩:=hown
  rcases hown with⟨rfl,h0⟩|⟨g,cap,cur,rfl,hge,hgb,hnc,hcm,hsz,htk⟩
  ·omega
  ·refine hK _ _ [(g, .cells ([]++([]++news)++(cur.toList.drop ((0+m)*size))).toArray e (0,0))] ⟨hlen2, .inr ⟨g,[],cur.toList.drop ((0+m)*size),cap,rfl,rfl,hnc, ?_,hcm⟩⟩ ?_
   ·rw[hlen2]
    simp[hsz]
    have:m*size<=cap*size:=Nat.mul_le_mul_right _ (by omega)
    omega
   ·have pz:([]++([]++news)++(cur.toList.drop ((0+m)*size))).toArray=cur:=by
     have:cur.toList=news++cur.toList.drop ((0+m)*size):=by
      rw[List.nil_append]at htk
      conv=>lhs;rw[<-List.take_append_drop ((0+m)*size) cur.toList,htk]
     apply Array.toList_inj.1
     simpa using this.symm
    rw[pz]
    exact {au:=⟨by simp,by intro x hx;simp at hx;subst hx;exact hgb⟩,os:=hgrow.os,tape:=hgrow.tape,output:=hgrow.output,size:=hgrow.size,frame:=fun k hk _=>hgrow.block k hk (by simp),fresh:=fun k hk=>by simp at hk;subst hk;exact .inr hge}
 ·have hgb:=hin.head
  refine wpList_append_arg w hg s x t hop e i z size bytes h1 hi hz0 hz1 hz2 h6 h7 g pre.length n cap xs hs hlen ?_ ad m c news hx hn hc h1c ?_ b1 b2 ?_ ?_
  ·intro j u hj
   rw[cell_of hgb]
   have hj':j<xs.length:=(List.getElem?_eq_some_iff.1 hj).1
   have e:=(List.getElem?_eq_some_iff.1 hj).2
   simp[List.getElem?_append,hj',e]
  ·intro hr j hj
   have:j<post.length:=by
    have:(n+m)*size<=cap*size:=Nat.mul_le_mul_right _ hr
    rw[Nat.add_mul]at this
    omega
   refine⟨?_,aO hgb _⟩
   rw[cell_of hgb,<-hlen]
   have e:pre.length+xs.length+j<(pre++xs++post).length:=by simp;omega
   simp only[List.getElem?_toArray]
   rw[List.getElem?_eq_getElem e]
   rfl
  ·intro hr
   have hle:(n+m)*size<=cap*size:=Nat.mul_le_mul_right _ hr
   rw[Nat.add_mul]at hle
   have hpl:news.length<=post.length:=by omega
   obtain⟨old,post',rfl,hol⟩: ∃old post',post=old++post'/\old.length=news.length:=⟨post.take news.length,post.drop news.length,(List.take_append_drop _ _).symm,by simp;omega⟩
   have hrow:=su g e (0,0) news (pre.length+n*size) _ w hgb (by simp;omega)
   rw[hrow]
   have es:((pre++xs++(old++post')).toArray.toList.take (pre.length+n*size)++news++(pre++xs++(old++post')).toArray.toList.drop (pre.length+n*size+news.length))=pre++(xs++news)++post':=by
    rw[<-hlen]
    simpa using Az pre xs old post' news hol
   rw[es]
   refine hK _ _ [(g, .cells (pre++(xs++news)++post').toArray e (0,0))] ⟨hlen2, .inr ⟨g,pre,post',cap,rfl,rfl,hr, ?_,hcm⟩⟩ ?_
   ·simp at hcap⊢;omega
   ·have hbk:=setRow_heap w g _ (pre++(xs++news)++post').toArray e (0,0) hgb
    exact {au:=⟨by simp,by intro x hx;simp only[List.mem_singleton]at hx;subst hx;exact hbk⟩,os:=rfl,tape:=rfl,output:=rfl,size:=by simp[World.setRow],frame:=fun k hk hne=>setRow_other w g k _ (by simpa using hne),fresh:=fun k hk=> .inl (by simpa using hk)}
  ·intro hfull v' w' hown hgrow
   obtain⟨hl,hown⟩:=hown
   rcases hown with⟨rfl,h0⟩|⟨g2,cap2,cur,rfl,hge,Ut,OW,hcm2,hsz,htk⟩
   ·have:n<=cap:=hnc
    omega
   ·refine hK _ _ [(g2, .cells ([]++(xs++news)++(cur.toList.drop ((n+m)*size))).toArray e (0,0))] ⟨hlen2, .inr ⟨g2,[],cur.toList.drop ((n+m)*size),cap2,rfl,rfl,OW, ?_,hcm2⟩⟩ ?_
    ·rw[hlen2]
     simp[hsz]
     have:(n+m)*size<=cap2*size:=Nat.mul_le_mul_right _ OW
     omega
    ·have pz:([]++(xs++news)++(cur.toList.drop ((n+m)*size))).toArray=cur:=by
      have:cur.toList=xs++news++cur.toList.drop ((n+m)*size):=by
       conv=>lhs;rw[<-List.take_append_drop ((n+m)*size) cur.toList,htk]
      apply Array.toList_inj.1
      simpa using this.symm
     rw[pz]
     exact {au:=⟨by simp,by intro x hx;simp at hx;subst hx;exact Ut⟩,os:=hgrow.os,tape:=hgrow.tape,output:=hgrow.output,size:=hgrow.size,frame:=fun k hk _=>hgrow.block k hk (by simp),fresh:=fun k hk=>by simp at hk;subst hk;exact .inr hge}
theorem kF{w:World}{b:Nat}{news:List Value}{T:TypeId}{fr:Nat×Nat}(hb:w.heap[b]? =some (.cells news.toArray T fr)):
  ∀j u,news[j]? =some u->w.cell? ((⟨b,0,none⟩:Addr).add j)=some u:=by
 intro j u hj
 rw[Addr.add_lit,Nat.zero_add,cell_of hb]
 simpa using hj
theorem aK.cell{T:TypeId}{size:Nat}{v:Value}{n:Nat}{xs:List Value}{h:Hp}{w:World}(hs:aK T size v n xs h)(hi:In w h){g off cap:Nat}(hv:v= .slice (some ⟨g,off,none⟩) n cap){j:Nat}(hj:j<xs.length):
  w.cell? ⟨g,off+j,none⟩=some xs[j]:=by
 rcases hs.2 with⟨rfl,_,_⟩|⟨g',pre,post,cap',rfl,rfl,_,_,_⟩
 ·cases hv
 ·cases hv
  rw[cell_of hi.head]
  simp[List.getElem?_append,hj]
theorem aK.news{T:TypeId}{size:Nat}{v:Value}{n:Nat}{xs:List Value}{h:Hp}{w:World}(hs:aK T size v n xs h)(hi:In w h){g off cap:Nat}(hv:v= .slice (some ⟨g,off,none⟩) n cap):
  ∀j u,xs[j]? =some u->w.cell? ((⟨g,off,none⟩:Addr).add j)=some u:=by
 intro j u hj
 obtain⟨hj',rfl⟩:=List.getElem?_eq_some_iff.1 hj
 rw[Addr.add_lit]
 exact hs.cell hi hv hj'
theorem aK.frozen{T:TypeId}{size:Nat}{v:Value}{n:Nat}{xs:List Value}{h:Hp}{w:World}(hs:aK T size v n xs h)(hi:In w h){g off cap:Nat}(hv:v= .slice (some ⟨g,off,none⟩) n cap)(j:Nat):
  w.frozen? ⟨g,j,none⟩=false:=by
 rcases hs.2 with⟨rfl,_,_⟩|⟨g',pre,post,cap',rfl,rfl,_,_,_⟩
 ·cases hv
 ·cases hv
  exact aO hi.head _
theorem aK.addr{T:TypeId}{size:Nat}{v:Value}{n:Nat}{xs:List Value}{h:Hp}(hs:aK T size v n xs h)(hn:0<n): ∃g off cap,v= .slice (some ⟨g,off,none⟩) n cap/\n<=cap:=by
 rcases hs.2 with⟨_,h0,_⟩|⟨g',pre,post,cap',rfl,rfl,hc,_,_⟩
 ·omega
 ·exact⟨_,_,_,rfl,hc⟩
theorem aK.shape{T:TypeId}{size:Nat}{v:Value}{n:Nat}{xs:List Value}{h:Hp}(hs:aK T size v n xs h): ∃ao cap,v= .slice ao n cap/\n<=cap:=by
 rcases hs.2 with⟨rfl,rfl,_⟩|⟨g',pre,post,cap',rfl,rfl,hc,_,_⟩
 ·exact⟨_,_,rfl,Nat.le_refl _⟩
 ·exact⟨_,_,rfl,hc⟩
theorem aK.nil(T:TypeId)(size:Nat):aK T size (.slice none 0 0) 0 [] []:=⟨by simp, .inl ⟨rfl,rfl,rfl⟩⟩
theorem aK.made{T:TypeId}{g n:Nat}{xs:List Value}(hl:xs.length=n)(hm:n<=maxLen):aK T 1 (.slice (some ⟨g,0,none⟩) n n) n xs [(g, .cells xs.toArray T (0,0))]:=
 ⟨by omega, .inr ⟨g,[],[],n,rfl,by simp,Nat.le_refl _,by simp[hl],hm⟩⟩
abbrev ints(l:List Int):List Value:=l.map (Value.int .i64)
theorem LW(pre xs post:List Value)(j:Nat)(v:Value)(hj:j<xs.length):(pre++xs++post).toArray.setIfInBounds (pre.length+j) v=(pre++xs.set j v++post).toArray:=by
 simp[List.set_append,hj]
theorem aK.store{T:TypeId}{v:Value}{n:Nat}{xs:List Value}{h:Hp}{w:World}(hs:aK T 1 v n xs h)(hi:In w h){g off cap:Nat}(hv:v= .slice (some ⟨g,off,none⟩) n cap){j:Nat}(hj:j<xs.length)(u:Value):
  ∃h',aK T 1 v n (xs.set j u) h'/\aj h h' w (w.setCell ⟨g,off+j,none⟩ u):=by
 obtain⟨hl,hs⟩:=hs
 rcases hs with⟨rfl,_,_⟩|⟨g',pre,post,cap',rfl,rfl,h1,h2,h3⟩
 ·cases hv
 ·cases hv
  refine⟨_,⟨by simpa using hl, .inr ⟨g,pre,post,cap,rfl,rfl,h1,by simpa using h2,h3⟩⟩, ?_⟩
  have:=aj.store (l:=[]) (r:=[]) (off:=pre.length+j) (v:=u) hi
  rw[LW pre xs post j u hj]at this
  exact this
theorem aK.clip{T:TypeId}{g off n cap:Nat}{xs:List Value}{h:Hp}(hs:aK T 1 (.slice (some ⟨g,off,none⟩) n cap) n xs h):aK T 1 (.slice (some ⟨g,off,none⟩) n n) n xs h:=by
 obtain⟨hl,hs⟩:=hs
 rcases hs with⟨h1,_,_⟩|⟨g',pre,post,cap',h1,h2,h3,h4,h5⟩
 ·cases h1
 ·cases h1
  exact⟨hl, .inr ⟨g,pre,post,n,rfl,h2,Nat.le_refl _,by omega,by omega⟩⟩
theorem Dh(z:Value)(n:Nat):madeCells #[z] n=(List.replicate n z).toArray:=by
 apply Array.ext
 ·simp[madeCells]
 ·intro i h1 h2
  have:i % 1=0:=by omega
  simp[madeCells,this]
theorem vg{P:Program}(w:World)(t e:TypeId)(z:Value)(bytes:Nat)(hu:P.underlying t=some (.slice e))(hinfo:(P.info? e).map (fun i=>(i.zero,i.size,i.bytes))=some (some z,1,bytes))(hz:z.cells=#[z])
  (n:Nat)(hn:n<=1048576)(hb:bytes<=64):
  (Instr.makeSlice t (.int .i64 n) (.int .i64 n)).run P w= .ok (.slice (some ⟨w.heap.size,0,none⟩) n n) (w.alloc (.cells (List.replicate n z).toArray e (0,0))):=by
 obtain⟨i,hi,hz0,hz1,hz2⟩:=info_parts hinfo
 have hmul:(i.bytes:Int)*(n:Int)<=281474976710656:=by
  rw[hz2]
  have:(bytes:Int)*(n:Int)<=64*1048576:=Int.mul_le_mul (by omega) (by omega) (by omega) (by omega)
  omega
 have h:=run_make (P:=P) w t e i z hu hi hz0 .i64 .i64 n n (by omega) (by omega) hmul (by omega)
 rw[hz1,hz,Nat.mul_one,Int.toNat_natCast,Dh]at h
 exact h
end Go.Proofs.YtibemcgdmembeaaGreat
namespace Go.Proofs.YtibemcgdmembeaaGreat
open Go.RowKit
def lH(p:Nat)(l:List Int)(h:Hp):Prop:=
 ∃b:Nat,h=[(p, .cells #[.slice (some ⟨b,0,none⟩) l.length l.length] 148 (0,0)),(b, .cells (ints l).toArray 3 (0,0))]/\l.length<=64/\ ∀x∈l,I64 x
def bY(l:List Int)(i:Int):Bool:=decide (0<=i/\i<l.length)
def aB(l:List Int)(i:Int):Int:=if bY l i then l.getD i.toNat 0 else 0
def bI(l:List Int)(i:Int):Int:=if bY l i then 0 else 3
def bP(l:List Int)(i v:Int):List Int:=if bY l i then l.set i.toNat v else l
theorem F_{w:World}{b:Nat}{l:List Int}{T:TypeId}(h:w.heap[b]? =some (.cells (ints l).toArray T (0,0)))(i:Nat)(hi:i<l.length):
  w.cell? ⟨b,i,none⟩=some (.int .i64 (l.getD i 0)):=by
 rw[cell_of h]
 simp[ints,List.getD,hi]
theorem ku(p:Nat)(l:List Int)(i:Int)(w:World)(h:Hp)(hi:In w h)(ht:lH p l h):
  Calls Tryz.prog 81 #[.pointer (some ⟨p,0,none⟩), .int .i64 i] w fun e w'=>e= .returned (.tuple #[.int .i64 (aB l i), .int .i64 (bI l i)])/\w=w':=by
 obtain⟨b,rfl,hl,hu⟩:=ht
 have e0:w.cell? ⟨p,0,none⟩=some (.slice (some ⟨b,0,none⟩) l.length l.length):=cell_of hi.head 0
 by_cases hh:0<=i/\i<l.length
 ·have h1:aB l i=l.getD i.toNat 0:=by simp[aB,bY,hh]
  have h2:bI l i=0:=by simp[bI,bY,hh]
  rw[h1,h2]
  obtain⟨k,rfl⟩: ∃k:Nat,i=k:=⟨i.toNat,by omega⟩
  have hk:k<l.length:=by omega
  have e2:=F_ hi.tail.head k hk
  clear h1 h2 hh
  rw[Int.toNat_natCast]
  generalize l.getD k 0=z at*
  go_enter Tryz.func81,Tryz.ntmps81
  go_wp2
  go_ret2
  exact⟨rfl,rfl⟩
 ·have h1:aB l i=0:=by simp[aB,bY,hh]
  have h2:bI l i=3:=by simp[bI,bY,hh]
  rw[h1,h2]
  clear h1 h2
  by_cases hp:0<=i
  ·have hq:(l.length:Int)<=i:=by omega
   clear hh
   go_enter Tryz.func81,Tryz.ntmps81
   go_wp2
   go_ret2
   exact⟨rfl,rfl⟩
  ·clear hh
   go_enter Tryz.func81,Tryz.ntmps81
   go_wp2
   go_ret2
   exact⟨rfl,rfl⟩
theorem QV{l:List Int}{k:Nat}{v:Int}(h: ∀x∈l,I64 x)(hv:I64 v): ∀x∈l.set k v,I64 x:=by
 intro x hx
 rcases List.mem_or_eq_of_mem_set hx with h1|h1
 ·exact h x h1
 ·exact h1▸hv
theorem qW(p:Nat)(l:List Int)(i v:Int)(w:World)(h:Hp)(hi:In w h)(ht:lH p l h)(hv:I64 v):
  Calls Tryz.prog 80 #[.pointer (some ⟨p,0,none⟩), .int .i64 i, .int .i64 v] w fun e w'=>e= .returned (.int .i64 (bI l i))/\ ∃h',lH p (bP l i v) h'/\aj h h' w w':=by
 obtain⟨b,rfl,hl,hu⟩:=ht
 have e0:w.cell? ⟨p,0,none⟩=some (.slice (some ⟨b,0,none⟩) l.length l.length):=cell_of hi.head 0
 by_cases hh:0<=i/\i<l.length
 ·have h1:bP l i v=l.set i.toNat v:=by simp[bP,bY,hh]
  have h2:bI l i=0:=by simp[bI,bY,hh]
  rw[h1,h2]
  obtain⟨k,rfl⟩: ∃k:Nat,i=k:=⟨i.toNat,by omega⟩
  have hk:k<l.length:=by omega
  have e2:=F_ hi.tail.head k hk
  have f2:w.frozen? ⟨b,k,none⟩=false:=aO hi.tail.head k
  clear h1 h2 hh
  rw[Int.toNat_natCast]
  have hU:=aj.store (l:=[(p,_)]) (r:=[]) (off:=k) (v:= .int .i64 v) hi
  have hs:(ints l).toArray.setIfInBounds k (.int .i64 v)=(ints (l.set k v)).toArray:=by simp[ints,List.map_set]
  have hH:lH p (l.set k v) [(p, .cells #[.slice (some ⟨b,0,none⟩) l.length l.length] 148 (0,0)),(b, .cells ((ints l).toArray.setIfInBounds k (.int .i64 v)) 3 (0,0))]:=
   ⟨b,by rw[hs];simp,by simpa using hl,QV hu hv⟩
  clear hs
  go_enter Tryz.func80,Tryz.ntmps80
  go_wp2
  go_ret
  exact⟨rfl,_,hH,hU⟩
 ·have h1:bP l i v=l:=by simp[bP,bY,hh]
  have h2:bI l i=3:=by simp[bI,bY,hh]
  rw[h1,h2]
  clear h1 h2
  by_cases hp:0<=i
  ·have hq:(l.length:Int)<=i:=by omega
   clear hh
   go_enter Tryz.func80,Tryz.ntmps80
   go_wp2
   go_ret
   exact⟨rfl,_,⟨b,rfl,hl,hu⟩,aj.refl hi⟩
  ·clear hh
   go_enter Tryz.func80,Tryz.ntmps80
   go_wp2
   go_ret
   exact⟨rfl,_,⟨b,rfl,hl,hu⟩,aj.refl hi⟩
theorem Tryz.kG:(Tryz.prog.info? 3).map (fun i=>(i.zero,i.size,i.bytes))=some (some (.int .i64 0),1,8):=by kernel_rfl
theorem LX(n:Nat)(w:World)(h0:0<n)(h1:n<=64):
  Calls Tryz.prog 97 #[.int .i64 n] w fun e w'=> ∃p h',e= .returned (.pointer (some ⟨p,0,none⟩))/\lH p (List.replicate n 0) h'/\aj [] h' w w':=by
 have hm:=vg (P:=Tryz.prog) w 41 3 (.int .i64 0) 8 Tryz.underlying41 Tryz.kG rfl n (by omega) (by decide)
 have hU:=(aj.alloc (In.nil w) (.cells (List.replicate n (Value.int .i64 0)).toArray 3 (0,0))).alloc' (.cells #[.slice (some ⟨w.heap.size,0,none⟩) n n] 148 (0,0))
 have hH:lH (w.heap.size+1) (List.replicate n 0) [(w.heap.size+1, .cells #[.slice (some ⟨w.heap.size,0,none⟩) n n] 148 (0,0)),(w.heap.size, .cells (List.replicate n (Value.int .i64 0)).toArray 3 (0,0))]:=
  ⟨w.heap.size,by simp[ints],by simpa using h1,by intro x hx;simp at hx;rw[hx.2];exact⟨by decide,by decide⟩⟩
 have h0':(0:Int)<n:=by omega
 have h1':(n:Int)<=64:=by omega
 generalize hR:List.replicate n (Value.int .i64 0)=R at*
 clear hR
 go_enter Tryz.func97,Tryz.ntmps97
 go_wp2
 go_ret
 exact⟨_,_,rfl,hH,by simpa using hU⟩
end Go.Proofs.YtibemcgdmembeaaGreat
namespace Go.Proofs.YtibemcgdmembeaaGreat
open Go.RowKit
structure jL where
 most:Int
 list:List Int
def jL.WF(s:jL):Prop:=0<=s.most/\s.most<=1048576/\s.list.length<=s.most/\ ∀x∈s.list,I64 x
def wI(s:jL)(v:Value):Obj:= .cells #[.int .i64 s.most,v] 185 (0,0)
def yG(p:Nat)(s:jL)(h:Hp):Prop:=
 ∃v hs,h=(p,wI s v)::hs/\aK 3 1 v s.list.length (ints s.list) hs/\s.WF
def jL.full(s:jL):Bool:=decide (s.most<=s.list.length)
def jL.put(s:jL)(x:Int):jL:=if s.full then s else {s with list:=s.list++[x]}
theorem QW(p:Nat)(s:jL)(x:Int)(w:World)(h:Hp)(hi:In w h)(hg:yG p s h)(hx:I64 x):
  Calls Tryz.prog 159 #[.pointer (some ⟨p,0,none⟩), .int .i64 x] w fun e w'=>e= .returned (.bool (!s.full))/\ ∃h',yG p (s.put x) h'/\aj h h' w w':=by
 obtain⟨v,hs,rfl,hS,w1,w2,w3,w4⟩:=hg
 have hv:=hS.shape
 obtain⟨ao,cap,rfl,hcap⟩:=hv
 have e0:w.cell? ⟨p,0,none⟩=some (.int .i64 s.most):=cell_of hi.head 0
 have e1:w.cell? ⟨p,1,none⟩=some (.slice ao s.list.length cap):=cell_of hi.head 1
 have f1:w.frozen? ⟨p,1,none⟩=false:=aO hi.head 1
 by_cases hf:s.most<=s.list.length
 ·have hb:s.full=true:=by simp[jL.full,hf]
  have hp:s.put x=s:=by simp[jL.put,hb]
  rw[hb,hp]
  have hU:=aj.drew hi
  clear hb hp
  go_enter Tryz.func159,Tryz.ntmps159
  go_wp2
  refine fQ (by kernel_rfl) (by kernel_rfl) fun w1 hw1=> ?_
  subst hw1
  repeat(refine wpStill_step (fun K hK=> ?_);have HK:=Lib.hid hK;clear hK;go_simp;refine HK.out _ ?_;clear HK K)
  refine wpStill_nil ?_
  go_wp2
  go_ret
  exact⟨rfl,_,⟨_,_,rfl,hS,w1,w2,w3,w4⟩,hU⟩
 ·have hb:s.full=false:=by simp[jL.full];omega
  have hp:s.put x={s with list:=s.list++[x]}:=by simp[jL.put,hb]
  rw[hb,hp]
  have U1:=((aj.refl hi).drew').skip' (.cells #[.int .i64 x] 3 (0,0))
  have hnews:=kF (news:=[.int .i64 x]) (w:=w.drew.alloc (.cells #[.int .i64 x] 3 (0,0))) (b:=w.heap.size) (T:=3) (fr:=(0,0)) (aV (by simp))
  have hl:((s.list.length:Nat):Int)<s.most:=by omega
  have hmax:s.list.length+1<=maxLen:=by unfold maxLen;omega
  have hmem: ∀y∈s.list++[x],I64 y:=by
   intro y hy
   rcases List.mem_append.1 hy with h1|h1
   ·exact w4 y h1
   ·simp at h1;exact h1▸hx
  have H1:=Lib.hid hnews
  clear hb hp hnews
  go_enter Tryz.func159,Tryz.ntmps159
  go_wp2
  refine fQ (by kernel_rfl) (by kernel_rfl) fun w1 hw1=> ?_
  subst hw1
  repeat(refine wpStill_step (fun K hK=> ?_);have HK:=Lib.hid hK;clear hK;go_simp;refine HK.out _ ?_;clear HK K)
  refine wpStill_nil ?_
  go_wp2_with(at_builtin;refine cO rfl (.tmp 25) (.tmp 27) 41 rfl 3 1 8 (.int .i64 0) Tryz.underlying41 Tryz.kG rfl (by decide) (.slice ao s.list.length cap) s.list.length (ints s.list) hs rfl hS U1.au.tail ⟨w.heap.size,0,none⟩ 1 1 [.int .i64 x] rfl H1.out rfl (by intro u hu;simp at hu;subst hu;rfl) (Or.inl (by decide)) hmax (by omega) ?_;intro v' w3 hX' hS' qG;obtain⟨ao',cap',rfl,_⟩:=hS'.shape;have U2:=U1.under qG;have g1:w3.cell? ⟨p,1,none⟩=some (.slice ao s.list.length cap):=cell_of U2.au.head 1;have k1:w3.frozen? ⟨p,1,none⟩=false:=aO U2.au.head 1)
  go_ret
  refine⟨rfl,_,⟨.slice ao' (s.list.length+1) cap',hX',rfl, ?_,w1,w2, ?_,hmem⟩,U2.store1 1 (.slice ao' (s.list.length+1) cap')⟩
  ·simpa[ints]using hS'
  ·simp;omega
theorem QX(n:Nat)(w:World)(h1:n<=1048576):
  Calls Tryz.prog 133 #[.int .i64 n] w fun e w'=> ∃p h',e= .returned (.pointer (some ⟨p,0,none⟩))/\yG p ⟨n,[]⟩ h'/\aj [] h' w w':=by
 have hU:=aj.alloc (In.nil w) (wI ⟨n,[]⟩ (.slice none 0 0))
 have hH:yG w.heap.size ⟨n,[]⟩ [(w.heap.size,wI ⟨n,[]⟩ (.slice none 0 0))]:=
  ⟨_,[],rfl,aK.nil _ _,by simp only;omega,by simp only;omega,by simp only[List.length_nil];omega,by simp⟩
 have h1':(n:Int)<=1048576:=by omega
 rcases Nat.eq_zero_or_pos n with rfl|h0
 ·go_enter Tryz.func133,Tryz.ntmps133
  go_wp2
  go_ret
  exact⟨_,_,rfl,hH,hU⟩
 ·have h0':(0:Int)<n:=by omega
  go_enter Tryz.func133,Tryz.ntmps133
  go_wp2
  go_ret
  exact⟨_,_,rfl,hH,hU⟩
structure bz where
 base:Int
 words:Int
 card:Int
 marks:List Bool
def bz.many(words card:Int):Int:=words/card+min (words % card) 1
def bz.WF(s:bz):Prop:=0<=s.base/\s.base<=1048576/\0<=s.words/\s.words<=1048576/\1<=s.card/\s.card<=1048576/\ (s.marks.length:Int)=bz.many s.words s.card
abbrev bools(l:List Bool):List Value:=l.map Value.bool
def oq(p:Nat)(s:bz)(h:Hp):Prop:=
 ∃b:Nat,h=[(p, .cells #[.int .i64 s.base, .int .i64 s.words, .int .i64 s.card, .slice (some ⟨b,0,none⟩) s.marks.length s.marks.length] 187 (0,0)),(b, .cells (bools s.marks).toArray 4 (0,0))]/\s.WF
def bz.has(s:bz)(i:Int):Bool:=decide (s.base<=i/\i-s.base<s.words)
def bz.of(s:bz)(i:Int):Int:=if s.has i then(i-s.base)/s.card else-1
def bz.mark(s:bz)(i:Int):bz:=if s.has i then {s with marks:=s.marks.set ((i-s.base)/s.card).toNat true}else s
theorem uy{x words card:Int}(h0:0<=x)(h1:x<words)(h2:1<=card):0<=x/card/\x/card<bz.many words card:=by
 have hx:0<=x/card:=Int.ediv_nonneg h0 (by omega)
 refine⟨hx, ?_⟩
 unfold bz.many
 have e1:card*(x/card)+x % card=x:=Int.mul_ediv_add_emod x card
 have e2:card*(words/card)+words % card=words:=Int.mul_ediv_add_emod words card
 have m1:0<=x % card:=Int.emod_nonneg x (by omega)
 have m2:words % card<card:=Int.emod_lt_of_pos words (by omega)
 have m3:0<=words % card:=Int.emod_nonneg words (by omega)
 by_cases hz:words % card=0
 ·rw[hz]
  have:card*(x/card)<card*(words/card):=by omega
  have:=Int.lt_of_mul_lt_mul_left this (by omega)
  omega
 ·have:card*(x/card)<card*(words/card+1):=by rw[Int.mul_add];omega
  have:=Int.lt_of_mul_lt_mul_left this (by omega)
  omega
theorem QY(p:Nat)(s:bz)(i:Int)(w:World)(h:Hp)(hi:In w h)(hg:oq p s h)(hx:I64 i):
  Calls Tryz.prog 187 #[.pointer (some ⟨p,0,none⟩), .int .i64 i] w fun e w'=>e= .returned (.int .i64 (s.of i))/\aj h h w w':=by
 obtain⟨b,rfl,w1,w2,w3,w4,w5,w6,w7⟩:=hg
 have e0:w.cell? ⟨p,0,none⟩=some (.int .i64 s.base):=cell_of hi.head 0
 have e1:w.cell? ⟨p,1,none⟩=some (.int .i64 s.words):=cell_of hi.head 1
 have e2:w.cell? ⟨p,2,none⟩=some (.int .i64 s.card):=cell_of hi.head 2
 obtain⟨x1,x2⟩:=hx
 clear w7
 by_cases h1:s.base<=i
 ·have g3:IntKind.i64.wrap (i-s.base)=i-s.base:=IntWalk.i64_in _ (by omega)
  have d1:decide (i<s.base)=false:=decide_eq_false (by omega)
  by_cases h2:i-s.base<s.words
  ·have d2:decide (s.words<=i-s.base)=false:=decide_eq_false (by omega)
   have ho:s.of i=(i-s.base)/s.card:=by simp[bz.of,bz.has,h1,h2]
   rw[ho]
   have hz:s.card≠0:=by omega
   have hd:(i-s.base).tdiv s.card=(i-s.base)/s.card:=Int.tdiv_eq_ediv_of_nonneg (by omega)
   have hd0:0<=(i-s.base)/s.card:=Int.ediv_nonneg (by omega) (by omega)
   have hd1:(i-s.base)/s.card<=i-s.base:=Int.ediv_le_self _ (by omega)
   have g4:IntKind.i64.wrap ((i-s.base)/s.card)=(i-s.base)/s.card:=IntWalk.i64_in _ (by omega)
   have p0:0<=i-s.base:=by omega
   clear ho
   go_enter Tryz.func187,Tryz.ntmps187
   go_wp2
   go_quiet (fail)
   go_wp2
   refine fQ (by kernel_rfl) (by kernel_rfl) fun w1 hw1=> ?_
   subst hw1
   repeat(refine wpStill_step (fun K hK=> ?_);have HK:=Lib.hid hK;clear hK;go_simp;refine HK.out _ ?_;clear HK K)
   refine wpStill_nil ?_
   go_wp2
   go_ret
   exact⟨rfl,(aj.drewN hi nq).drew'⟩
  ·have d2:decide (s.words<=i-s.base)=true:=decide_eq_true (by omega)
   have ho:s.of i= -1:=by simp[bz.of,bz.has,h2]
   rw[ho]
   clear ho
   go_enter Tryz.func187,Tryz.ntmps187
   go_wp2
   go_quiet (fail)
   go_wp2
   go_ret
   exact⟨rfl,aj.drewN hi nq⟩
 ·have d1:decide (i<s.base)=true:=decide_eq_true (by omega)
  have ho:s.of i= -1:=by simp[bz.of,bz.has,h1]
  rw[ho]
  clear ho
  go_enter Tryz.func187,Tryz.ntmps187
  go_wp2
  go_quiet (fail)
  go_wp2
  go_ret
  exact⟨rfl,aj.drewN hi nq⟩
theorem LY(p:Nat)(s:bz)(i:Int)(w:World)(h:Hp)(hi:In w h)(hg:oq p s h)(hx:I64 i):
  Calls Tryz.prog 160 #[.pointer (some ⟨p,0,none⟩), .int .i64 i] w fun e w'=>e= .returned (.bool (s.has i))/\ ∃h',oq p (s.mark i) h'/\aj h h' w w':=by
 have hof:=QY p s i w h hi hg hx
 have hg0:=hg
 obtain⟨b,rfl,w1,w2,w3,w4,w5,w6,w7⟩:=hg
 by_cases h1:s.has i=true
 ·have h1':=h1
  simp only[bz.has,decide_eq_true_eq]at h1'
  obtain⟨k1,k2⟩:=h1'
  have hd:=uy (x:=i-s.base) (words:=s.words) (card:=s.card) (by omega) k2 w5
  have ho:s.of i=(i-s.base)/s.card:=by rw[bz.of,if_pos h1]
  have hm:s.mark i={s with marks:=s.marks.set ((i-s.base)/s.card).toNat true}:=by rw[bz.mark,if_pos h1]
  rw[h1,hm]
  rw[ho]at hof
  obtain⟨k,hk⟩: ∃k:Nat,(i-s.base)/s.card=k:=⟨((i-s.base)/s.card).toNat,by omega⟩
  rw[hk]at hof hd⊢
  rw[Int.toNat_natCast]
  have hkl:k<s.marks.length:=by omega
  clear ho hm hk h1 k1 k2
  obtain⟨d1,d2⟩:=hd
  go_enter Tryz.func160,Tryz.ntmps160
  go_wp2_with(go_at_call 187;refine Calls.mono hof ?_;rintro e wx ⟨rfl,u2⟩;have e3:wx.cell? ⟨p,3,none⟩=some (.slice (some ⟨b,0,none⟩) s.marks.length s.marks.length):=cell_of u2.au.head 3;have e4:wx.cell? ⟨b,k,none⟩=some (.bool (s.marks.getD k false)):=((cell_of u2.au.tail.head k).trans (by simp[List.getD,hkl]));have f4:wx.frozen? ⟨b,k,none⟩=false:=aO u2.au.tail.head k)
  go_ret
  have hs:(bools s.marks).toArray.setIfInBounds k (.bool true)=(bools (s.marks.set k true)).toArray:=by simp[bools,List.map_set]
  refine⟨rfl,_,⟨b, ?_,w1,w2,w3,w4,w5,w6, ?_⟩,aj.store' (l:=[(p,_)]) (r:=[]) u2 k (.bool true)⟩
  ·simp only[hs];simp
  ·simpa using w7
 ·have h1':s.has i=false:=by simpa using h1
  have ho:s.of i= -1:=by rw[bz.of,if_neg h1]
  have hm:s.mark i=s:=by rw[bz.mark,if_neg h1]
  rw[h1',hm]
  rw[ho]at hof
  clear ho hm h1 h1'
  go_enter Tryz.func160,Tryz.ntmps160
  go_wp2_with(go_at_call 187;refine Calls.mono hof ?_;rintro e wx ⟨rfl,u2⟩)
  go_ret
  exact⟨rfl,_,hg0,u2⟩
theorem Tryz.Gf:(Tryz.prog.info? 4).map (fun i=>(i.zero,i.size,i.bytes))=some (some (.bool false),1,1):=by kernel_rfl
def fF(b n c:Int):bz:=⟨b,n,c,List.replicate (bz.many n c).toNat false⟩
theorem qg{words card:Int}(h0:0<=words)(h1:words<=1048576)(h2:1<=card):0<=bz.many words card/\bz.many words card<=1048576:=by
 rcases Int.lt_or_eq_of_le h0 with h|h
 ·have:=uy (x:=words-1) (words:=words) (card:=card) (by omega) (by omega) h2
  refine⟨by omega, ?_⟩
  unfold bz.many
  have e2:card*(words/card)+words % card=words:=Int.mul_ediv_add_emod words card
  have m3:0<=words % card:=Int.emod_nonneg words (by omega)
  have hd:0<=words/card:=Int.ediv_nonneg h0 (by omega)
  have:words/card<=card*(words/card):=by
   have:=Int.mul_le_mul_of_nonneg_right h2 hd
   omega
  omega
 ·subst h
  simp[bz.many]<;>omega
theorem OX(b n c:Int)(w:World)(h1:0<b)(h2:b<=1048576)(h3:0<=n)(h4:n<=1048576)(h5:1<=c)(h6:c<=1048576):
  Calls Tryz.prog 134 #[.int .i64 b, .int .i64 n, .int .i64 c] w fun e w'=> ∃p h',e= .returned (.pointer (some ⟨p,0,none⟩))/\oq p (fF b n c) h'/\aj [] h' w w':=by
 obtain⟨Xz,VG⟩:=qg h3 h4 h5
 obtain⟨m,hm⟩: ∃m:Nat,bz.many n c=m:=⟨(bz.many n c).toNat,by omega⟩
 have hmk:=fun W=>vg (P:=Tryz.prog) W 107 4 (.bool false) 1 Tryz.underlying107 Tryz.Gf rfl m (by omega) (by decide)
 have hU:=fun W=>(aj.alloc (In.nil W) (.cells (List.replicate m (Value.bool false)).toArray 4 (0,0))).alloc' (.cells #[.int .i64 b, .int .i64 n, .int .i64 c, .slice (some ⟨W.heap.size,0,none⟩) m m] 187 (0,0))
 have hH: ∀k,oq (k+1) (fF b n c) [(k+1, .cells #[.int .i64 b, .int .i64 n, .int .i64 c, .slice (some ⟨k,0,none⟩) m m] 187 (0,0)),(k, .cells (List.replicate m (Value.bool false)).toArray 4 (0,0))]:=
  fun k=>⟨k,by simp[fF,bools,hm],Int.le_of_lt h1,h2,h3,h4,h5,h6,by simp[fF,hm]⟩
 generalize hR:List.replicate m (Value.bool false)=R at*
 clear hR
 have hz:c≠0:=by omega
 have hd:n.tdiv c=n/c:=Int.tdiv_eq_ediv_of_nonneg h3
 have hd2:n.tmod c=n % c:=Int.tmod_eq_emod_of_nonneg h3
 have d0:0<=n/c:=Int.ediv_nonneg h3 (by omega)
 have d1:n/c<=n:=Int.ediv_le_self _ h3
 have r0:0<=n % c:=Int.emod_nonneg n hz
 have r1:n % c<c:=Int.emod_lt_of_pos n (by omega)
 have key: ∀(hw:n=0∨0<n),Calls Tryz.prog 134 #[.int .i64 b, .int .i64 n, .int .i64 c] w fun e w'=> ∃p h',e= .returned (.pointer (some ⟨p,0,none⟩))/\oq p (fF b n c) h'/\aj [] h' w w':=by
  intro hw
  rcases hw with rfl|hn
  ·have hm0:m=0:=by simp[bz.many]at hm;omega
   subst hm0
   clear hd hd2 d0 d1 r0 r1 hm Xz VG
   have k0:IntKind.i64.wrap 0=0:=by kernel_rfl
   have Uu:c=1∨1<c:=by omega
   rcases Uu with rfl|hc
   all_goals
    go_enter Tryz.func134,Tryz.ntmps134
    go_wp2
    have IZ:=hmk w.drew
    have OY:=(aj.drew (In.nil w)).trans (hU w.drew)
    rw[World.size_alloc]at OY
    have hH1:=hH w.heap.size
    try rw[show((0:Nat):Int)=0 from rfl]at IZ
    clear hmk hU hH
    go_region
    all_goals
     go_wp2
     go_ret
     exact⟨_,_,rfl,hH1,OY⟩
  ·have Uu:c=1∨1<c:=by omega
   rcases Uu with rfl|hc
   ·have hm0:(m:Int)=n:=by rw[<-hm];simp[bz.many]<;>omega
    obtain rfl:n=m:=hm0.symm
    clear hd hd2 d0 d1 r0 r1 hm Xz VG
    have hwn:IntKind.i64.wrap (m:Int)=m:=IntWalk.i64_in _ (by omega)
    go_enter Tryz.func134,Tryz.ntmps134
    go_wp2
    have IZ:=hmk w.drew
    have OY:=(aj.drew (In.nil w)).trans (hU w.drew)
    rw[World.size_alloc]at OY
    have hH1:=hH w.heap.size
    try rw[show((0:Nat):Int)=0 from rfl]at IZ
    clear hmk hU hH
    go_region
    all_goals
     go_wp2
     go_ret
     exact⟨_,_,rfl,hH1,OY⟩
   ·unfold bz.many at hm
    obtain⟨q,hq⟩: ∃q,q=n/c:=⟨_,rfl⟩
    obtain⟨r,hr⟩: ∃r,r=n % c:=⟨_,rfl⟩
    rw[<-hq,<-hr]at hm
    rw[<-hq]at hd d0 d1
    rw[<-hr]at hd2 r0 r1
    clear hq hr
    have hwq:IntKind.i64.wrap q=q:=IntWalk.i64_in _ (by omega)
    have hwr:IntKind.i64.wrap r=r:=IntWalk.i64_in _ (by omega)
    have XT:r=0∨1<=r:=by omega
    rcases XT with rfl|hr
    ·obtain rfl:q=m:=by omega
     clear hm Xz VG
     go_enter Tryz.func134,Tryz.ntmps134
     go_wp2
     have IZ:=hmk w.drew
     have OY:=(aj.drew (In.nil w)).trans (hU w.drew)
     rw[World.size_alloc]at OY
     have hH1:=hH w.heap.size
     try rw[show((0:Nat):Int)=0 from rfl]at IZ
     clear hmk hU hH
     go_region
     all_goals
      go_wp2
      go_ret
      exact⟨_,_,rfl,hH1,OY⟩
    ·have hr1:r=1∨1<r:=by omega
     have hs1:IntKind.i64.wrap (q+1)=m:=by rw[IntWalk.i64_in _ (by omega)];omega
     clear hr
     rcases hr1 with rfl|hr
     all_goals
      clear hm Xz VG
      go_enter Tryz.func134,Tryz.ntmps134
      go_wp2
      have IZ:=hmk w.drew
      have OY:=(aj.drew (In.nil w)).trans (hU w.drew)
      rw[World.size_alloc]at OY
      have hH1:=hH w.heap.size
      try rw[show((0:Nat):Int)=0 from rfl]at IZ
      clear hmk hU hH
      go_region
      all_goals
       go_wp2
       go_ret
       exact⟨_,_,rfl,hH1,OY⟩
 exact key (by omega)
end Go.Proofs.YtibemcgdmembeaaGreat
namespace Go.Proofs.YtibemcgdmembeaaGreat
open Go.RowKit
structure bC where
 kind:Int
 size:Int
 used:List Bool
 pending:Bool
structure aP where
 base:Int
 words:Int
 pages:List bC
abbrev jM:=bC×Value×Hp
def dw(r:jM):List Value:=[.int .i64 r.1.kind, .int .i64 r.1.size,r.2.1, .bool r.1.pending]
def DL(r:jM):Prop:=aK 4 1 r.2.1 r.1.used.length (bools r.1.used) r.2.2/\r.1.used.length<=1048576
def gY(s:aP)(b:Nat):Obj:= .cells #[.int .i64 s.base, .int .i64 s.words, .slice (some ⟨b,0,none⟩) s.pages.length s.pages.length] 106 (0,0)
def jd(rows:List jM):Obj:= .cells (rows.flatMap dw).toArray 109 (0,0)
def aP.WF(s:aP):Prop:=0<=s.base/\s.base<=1048576/\1<=s.words/\s.words<=256/\s.pages.length<=64
def eF(p:Nat)(s:aP)(h:Hp):Prop:=
 ∃(b:Nat) (rows:List jM),h=(p,gY s b)::(b,jd rows)::(rows.map (·.2.2)).flatten/\s.pages=rows.map (·.1)/\ (∀r∈rows,DL r)/\s.WF
def yC:bC:=⟨0,0,[],false⟩
def row0:jM:=(yC, .slice none 0 0,[])
theorem QZ:DL row0:=⟨aK.nil _ _,by decide⟩
theorem Tryz.Gg:(Tryz.prog.info? 109).map (fun i=>(i.zero,i.size,i.bytes))=some (some (.agg #[.int .i64 0, .int .i64 0, .slice none 0 0, .bool false]),4,48):=by kernel_rfl
theorem uz(a b c d:Value)(n:Nat):madeCells #[a,b,c,d] (n*4)=((List.replicate n [a,b,c,d]).flatten).toArray:=by
 apply Array.toList_inj.1
 simp only[madeCells,Array.toList_map,Array.toList_range]
 induction n with
 |zero=>rfl
 |succ n ih=>
  have e:(n+1)*4=n*4+1+1+1+1:=by omega
  rw[e]
  simp only[List.range_succ,List.map_append,ih]
  have m0:n*4 % 4=0:=by omega
  have m1:(n*4+1) % 4=1:=by omega
  have m2:(n*4+1+1) % 4=2:=by omega
  have m3:(n*4+1+1+1) % 4=3:=by omega
  simp[m0,m1,m2,m3,List.replicate_succ']
theorem I4(b:Int)(n:Nat)(k:Int)(w:World)(h1:0<b)(h2:b<=1048576)(h3:n<=64)(h4:1<k)(h5:k<=256):
  Calls Tryz.prog 94 #[.int .i64 b, .int .i64 n, .int .i64 k] w fun e w'=> ∃p h',e= .returned (.pointer (some ⟨p,0,none⟩))/\eF p ⟨b,k,List.replicate n yC⟩ h'/\aj [] h' w w':=by
 obtain⟨i,hi,hz0,hz1,hz2⟩:=info_parts Tryz.Gg
 have hmk:=run_make (P:=Tryz.prog) w 104 109 i _ Tryz.underlying104 hi hz0 .i64 .i64 n n (by omega) (by omega) (by rw[hz2];omega) (by omega)
 rw[hz1,Int.toNat_natCast,Value.cells,uz]at hmk
 have hcells:(List.replicate n [Value.int .i64 0, .int .i64 0, .slice none 0 0, .bool false]).flatten=(List.replicate n row0).flatMap dw:=by
  simp[List.flatMap,dw,row0,yC]
 rw[hcells]at hmk
 have TE:((List.replicate n row0).map (·.2.2)).flatten=[]:=by simp[row0]
 have hU:=(aj.alloc (In.nil w) (jd (List.replicate n row0))).alloc' (gY ⟨b,k,List.replicate n yC⟩ w.heap.size)
 have hH:eF (w.heap.size+1) ⟨b,k,List.replicate n yC⟩ [(w.heap.size+1,gY ⟨b,k,List.replicate n yC⟩ w.heap.size),(w.heap.size,jd (List.replicate n row0))]:=
  ⟨w.heap.size,List.replicate n row0,by rw[TE],by simp[row0],by intro r hr;simp at hr;rw[hr.2];exact QZ,by simp only;omega,h2,by simp only;omega,h5,by simpa using h3⟩
 simp only[jd,gY,List.length_replicate]at hU hH
 generalize hR:((List.replicate n row0).flatMap dw).toArray=R at*
 clear hR hcells TE hi hz0 hz1 hz2
 have h3':(n:Int)<=64:=by omega
 have key: ∀hn:n=0∨0<(n:Int),Calls Tryz.prog 94 #[.int .i64 b, .int .i64 n, .int .i64 k] w fun e w'=> ∃p h',e= .returned (.pointer (some ⟨p,0,none⟩))/\eF p ⟨b,k,List.replicate n yC⟩ h'/\aj [] h' w w':=by
  intro hn
  rcases hn with rfl|hn
  ·have HH:=Lib.hid hH
   clear hH
   rw[show((0:Nat):Int)=0 from rfl]at hmk⊢
   go_enter Tryz.func94,Tryz.ntmps94
   go_wp2
   go_ret
   exact⟨_,_,rfl,HH.out,by simpa using hU⟩
  ·have HH:=Lib.hid hH
   clear hH
   go_enter Tryz.func94,Tryz.ntmps94
   go_wp2
   go_ret
   exact⟨_,_,rfl,HH.out,by simpa using hU⟩
 exact key (by omega)
theorem xA: ∀(rows:List jM) (n j:Nat),j<4->(rows.flatMap dw)[n*4+j]? =(rows[n]?).bind fun r=>(dw r)[j]?
 |[],n,j,_=>by simp
 |r::rows,0,j,hj=>by
  have hl:(dw r).length=4:=rfl
  simp only[List.flatMap_cons,Nat.zero_mul,Nat.zero_add,List.getElem?_cons_zero,Option.bind_some]
  rw[List.getElem?_append_left (by omega)]
 |r::rows,n+1,j,hj=>by
  have hl:(dw r).length=4:=rfl
  simp only[List.flatMap_cons,List.getElem?_cons_succ]
  rw[List.getElem?_append_right (by omega),hl,show(n+1)*4+j-4=n*4+j by omega]
  exact xA rows n j hj
theorem AA{w:World}{b:Nat}{rows:List jM}{n:Nat}{r:jM}(h:w.heap[b]? =some (jd rows))(hr:rows[n]? =some r):
  w.cell? ⟨b,n*4,none⟩=some (.int .i64 r.1.kind)/\w.cell? ⟨b,n*4+1,none⟩=some (.int .i64 r.1.size)/\w.cell? ⟨b,n*4+2,none⟩=some r.2.1/\w.cell? ⟨b,n*4+3,none⟩=some (.bool r.1.pending):=by
 have e:=fun j (hj:j<4)=>(cell_of h (n*4+j)).trans ((by simp[hr]:(rows.flatMap dw).toArray[n*4+j]? =(rows.flatMap dw)[n*4+j]?).trans (xA rows n j hj))
 simp only[hr,Option.bind_some]at e
 exact⟨by have:=e 0 (by omega);rw[Nat.add_zero]at this;exact this,e 1 (by omega),e 2 (by omega),e 3 (by omega)⟩
theorem aK.zero{T:TypeId}{size:Nat}{v:Value}{xs:List Value}{h:Hp}(hs:aK T size v 0 xs h): ∃ao cap,v= .slice ao 0 cap:=by
 obtain⟨ao,cap,rfl,_⟩:=hs.shape
 exact⟨ao,cap,rfl⟩
end Go.Proofs.YtibemcgdmembeaaGreat
namespace Go.Proofs.YtibemcgdmembeaaGreat
open Go.RowKit
structure aJ where
 f0:Int
 u0:Int
 f1:Int
 u1:Int
 words:Int
 now:Bool
namespace aJ
def cf(y:aJ):Int:=if y.now then y.f1 else y.f0
def cu(y:aJ):Int:=if y.now then y.u1 else y.u0
def of(y:aJ):Int:=if y.now then y.f0 else y.f1
def ou(y:aJ):Int:=if y.now then y.u0 else y.u1
def WF(y:aJ):Prop:=0<=y.f0/\y.f0<=1048576/\0<=y.f1/\y.f1<=2097152/\0<=y.u0/\y.u0<=y.words/\0<=y.u1/\y.u1<=y.words/\y.words<=1048576
def room(y:aJ):Int:=y.words-y.cu
def iZ(y:aJ)(n:Int):Bool:=decide (1<=n/\n<=y.room)
def di(y:aJ)(n:Int):Int:=if y.iZ n then y.cf+y.cu else 0
def take(y:aJ)(n:Int):aJ:=if y.iZ n then(if y.now then {y with u1:=y.u1+n}else {y with u0:=y.u0+n})else y
def oM(y:aJ):Bool:=decide (y.ou<=0)
def flip(y:aJ):aJ:=if y.oM then {y with now:= !y.now}else y
def qH(y:aJ):Bool:= !decide (y.ou=0)
def drop(y:aJ):aJ:=if y.now then {y with u0:=0}else {y with u1:=0}
def isIn(y:aJ)(i:Int):Bool:=decide (y.cf<=i/\i-y.cf<y.cu)
def dI(y:aJ)(i:Int):Bool:=decide (y.of<=i/\i-y.of<y.ou)
def Q7(y:aJ)(n:Bool)(i:Int):Bool:=if n then decide (y.f1<=i/\i-y.f1<y.u1)else decide (y.f0<=i/\i-y.f0<y.u0)
end aJ
def mW(b:Bool):Int:=if b then 1 else 0
def kH(y:aJ):Array Value:=#[.int .i64 y.f0, .int .i64 y.u0, .int .i64 y.f1, .int .i64 y.u1, .int .i64 y.words, .int .i64 (mW y.now)]
def gy(p:Nat)(y:aJ)(h:Hp):Prop:=h=[(p, .cells (kH y) 125 (0,0))]/\y.WF
theorem gu{w:World}{p:Nat}{y:aJ}{h:Hp}(hi:In w h)(hy:gy p y h):
  w.cell? ⟨p,0,none⟩=some (.int .i64 y.f0)/\w.cell? ⟨p,1,none⟩=some (.int .i64 y.u0)/\w.cell? ⟨p,2,none⟩=some (.int .i64 y.f1)/\
  w.cell? ⟨p,3,none⟩=some (.int .i64 y.u1)/\w.cell? ⟨p,4,none⟩=some (.int .i64 y.words)/\w.cell? ⟨p,5,none⟩=some (.int .i64 (mW y.now)):=by
 obtain⟨rfl,_⟩:=hy
 have:=hi.head
 exact⟨cell_of this 0,cell_of this 1,cell_of this 2,cell_of this 3,cell_of this 4,cell_of this 5⟩
theorem kT{w:World}{p:Nat}{y:aJ}{h:Hp}(hi:In w h)(hy:gy p y h)(i:Nat):w.frozen? ⟨p,i,none⟩=false:=by
 obtain⟨rfl,_⟩:=hy
 exact aO hi.head i
theorem DN(p:Nat)(y:aJ)(w:World)(h:Hp)(hi:In w h)(hy:gy p y h):
  Calls Tryz.prog 126 #[.pointer (some ⟨p,0,none⟩)] w fun e w'=>e= .returned (.int .i64 y.room)/\aj h h w w':=by
 obtain⟨c0,c1,c2,c3,c4,c5⟩:=gu hi hy
 obtain⟨hh,h1,h2,h3,h4,h5,h6,h7,h8,h9⟩:=hy
 rcases y with⟨f0,u0,f1,u1,words,now⟩
 simp only[mW]at*
 have e1:IntKind.i64.wrap (words-u0)=words-u0:=IntWalk.i64_in _ (by omega)
 have e2:IntKind.i64.wrap (words-u1)=words-u1:=IntWalk.i64_in _ (by omega)
 cases now
 all_goals
  simp only[aJ.room,aJ.cu,if_true,if_false,Bool.false_eq_true]at*
  go_enter Tryz.func126,Tryz.ntmps126
  go_wp2
  refine fQ (by kernel_rfl) (by kernel_rfl) fun w1 hw1=> ?_
  subst hw1
  repeat still_step
  refine wpStill_nil ?_
  go_wp2
  go_ret
  exact⟨rfl,aj.drew hi⟩
theorem LZ(p:Nat)(y:aJ)(w:World)(h:Hp)(hi:In w h)(hy:gy p y h):
  Calls Tryz.prog 120 #[.pointer (some ⟨p,0,none⟩)] w fun e w'=>e= .returned (.int .i64 y.cu)/\aj h h w w':=by
 obtain⟨c0,c1,c2,c3,c4,c5⟩:=gu hi hy
 rcases y with⟨f0,u0,f1,u1,words,now⟩
 simp only[mW]at*
 cases now
 all_goals
  simp only[aJ.cu,if_true,if_false,Bool.false_eq_true]at*
  go_enter Tryz.func120,Tryz.ntmps120
  go_wp2
  refine fQ (by kernel_rfl) (by kernel_rfl) fun w1 hw1=> ?_
  subst hw1
  repeat still_step
  refine wpStill_nil ?_
  go_wp2
  go_ret
  exact⟨rfl,aj.drew hi⟩
theorem DR(p:Nat)(y:aJ)(w:World)(h:Hp)(hi:In w h)(hy:gy p y h):
  Calls Tryz.prog 121 #[.pointer (some ⟨p,0,none⟩)] w fun e w'=>e= .returned (.int .i64 y.ou)/\aj h h w w':=by
 obtain⟨c0,c1,c2,c3,c4,c5⟩:=gu hi hy
 rcases y with⟨f0,u0,f1,u1,words,now⟩
 simp only[mW]at*
 have k0:IntKind.i64.wrap 0=0:=by kernel_rfl
 have k1:IntKind.i64.wrap 1=1:=by kernel_rfl
 cases now
 all_goals
  simp only[aJ.ou,if_true,if_false,Bool.false_eq_true]at*
  go_enter Tryz.func121,Tryz.ntmps121
  go_wp2
  refine fQ (by kernel_rfl) (by kernel_rfl) fun w1 hw1=> ?_
  subst hw1
  repeat still_step
  refine wpStill_nil ?_
  go_wp2
  go_ret
  exact⟨rfl,aj.drew hi⟩
theorem Gh(p:Nat)(y:aJ)(n:Bool)(i:Int)(w:World)(h:Hp)(hi:In w h)(hy:gy p y h)(hb:I64 i):
  Calls Tryz.prog 88 #[.pointer (some ⟨p,0,none⟩), .int .i64 (mW n), .int .i64 i] w fun e w'=>e= .returned (.bool (y.Q7 n i))/\aj h h w w':=by
 obtain⟨c0,c1,c2,c3,c4,c5⟩:=gu hi hy
 obtain⟨hh,h1,h2,h3,h4,h5,h6,h7,h8,h9⟩:=hy
 obtain⟨hb1,hb2⟩:=hb
 clear hh
 rcases y with⟨f0,u0,f1,u1,words,now⟩
 simp only[mW,aJ.Q7]at*
 have hp:p<w.heap.size:=World.block_lt_of_cell? w _ c0
 have hp':p≠w.heap.size:=by omega
 cases n
 ·simp only[if_false,Bool.false_eq_true]
  by_cases g1:f0<=i
  ·have g3:wrap64 (i-f0)=i-f0:=by unfold wrap64;omega
   by_cases g2:i-f0<u0
   all_goals
    go_enter Tryz.func88,Tryz.ntmps88
    go_wp2
    go_ret
    exact⟨by simp[g1,g2,g3],aj.skip hi _⟩
  ·go_enter Tryz.func88,Tryz.ntmps88
   go_wp2
   go_ret
   exact⟨by simp[g1]<;>omega,aj.skip hi _⟩
 ·simp only[if_true]
  by_cases g1:f1<=i
  ·have g3:wrap64 (i-f1)=i-f1:=by unfold wrap64;omega
   by_cases g2:i-f1<u1
   all_goals
    go_enter Tryz.func88,Tryz.ntmps88
    go_wp2
    go_ret
    exact⟨by simp[g1,g2,g3],aj.skip hi _⟩
  ·go_enter Tryz.func88,Tryz.ntmps88
   go_wp2
   go_ret
   exact⟨by simp[g1]<;>omega,aj.skip hi _⟩
theorem Q8(y:aJ)(i:Int):y.isIn i=y.Q7 y.now i:=by
 rcases y with⟨f0,u0,f1,u1,words,now⟩
 cases now<;>rfl
theorem L8(y:aJ)(i:Int):y.dI i=y.Q7 (!y.now) i:=by
 rcases y with⟨f0,u0,f1,u1,words,now⟩
 cases now<;>rfl
theorem KJ(p:Nat)(y:aJ)(i:Int)(w:World)(h:Hp)(hi:In w h)(hy:gy p y h)(hb:I64 i):
  Calls Tryz.prog 43 #[.pointer (some ⟨p,0,none⟩), .int .i64 i] w fun e w'=>e= .returned (.bool (y.isIn i))/\aj h h w w':=by
 obtain⟨c0,c1,c2,c3,c4,c5⟩:=gu hi hy
 rw[Q8]
 go_enter Tryz.func43,Tryz.ntmps43
 go_wp2_with(go_at_call 88;refine(Gh p y _ i _ _ hi hy hb).mono ?_;rintro e w1 ⟨rfl,u1⟩)
 go_ret
 exact⟨rfl,u1⟩
theorem qX(p:Nat)(y:aJ)(i:Int)(w:World)(h:Hp)(hi:In w h)(hy:gy p y h)(hb:I64 i):
  Calls Tryz.prog 44 #[.pointer (some ⟨p,0,none⟩), .int .i64 i] w fun e w'=>e= .returned (.bool (y.dI i))/\aj h h w w':=by
 obtain⟨c0,c1,c2,c3,c4,c5⟩:=gu hi hy
 rw[L8]
 have k1:mW (!y.now)=1-mW y.now:=by cases y.now<;>rfl
 have b1:0<=mW y.now:=by cases y.now<;>decide
 have b2:mW y.now<=1:=by cases y.now<;>decide
 have h1:=Gh p y (!y.now) i w h hi hy hb
 rw[k1]at h1
 clear k1
 go_enter Tryz.func44,Tryz.ntmps44
 go_wp2_with(go_at_call 88;refine h1.mono ?_;rintro e w1 ⟨rfl,u1⟩)
 go_ret
 exact⟨rfl,u1⟩
theorem DT(p:Nat)(y:aJ)(n:Int)(w:World)(h:Hp)(hi:In w h)(hy:gy p y h)(hb:I64 n):
  Calls Tryz.prog 84 #[.pointer (some ⟨p,0,none⟩), .int .i64 n] w fun e w'=>e= .returned (.tuple #[.int .i64 (y.di n), .bool (y.iZ n)])/\ ∃h',gy p (y.take n) h'/\aj h h' w w':=by
 obtain⟨c0,c1,c2,c3,c4,c5⟩:=gu hi hy
 have hf:=kT hi hy
 have f1:=hf 1
 have f3:=hf 3
 clear hf
 have hroom:=DN p y w h hi hy
 by_cases hn:1<=n
 ·by_cases hr:n<=y.room
  ·have hok:y.iZ n=true:=by simp[aJ.iZ,hn,hr]
   have hy0:=hy
   obtain⟨hh,h1,h2,h3,h4,h5,h6,h7,h8,h9⟩:=hy0
   obtain⟨hb1,hb2⟩:=hb
   have XU:y.room<=1048576:=by unfold aJ.room aJ.cu;split<;>omega
   cases dQ:y.now
   ·have VH:y.cu=y.u0:=by simp[aJ.cu,dQ]
    have hcf:y.cf=y.f0:=by simp[aJ.cf,dQ]
    have hw':y.u0+n<=y.words:=by unfold aJ.room at hr;omega
    have hbit:mW y.now=0:=by rw[dQ];rfl
    have hta:y.di n=y.f0+y.u0:=by simp[aJ.di,hok,hcf,VH]
    have htk:y.take n={y with u0:=y.u0+n}:=by simp[aJ.take,hok,dQ]
    rw[hok,hta,htk]
    have hH:gy p {y with u0:=y.u0+n} [(p, .cells ((kH y).setIfInBounds 1 (.int .i64 (y.u0+n))) 125 (0,0))]:=⟨rfl,h1,h2,h3,h4,by first|assumption|(show 0<=y.u0+n;omega),by first|assumption|exact hw',by first|assumption|(show 0<=y.u0+n;omega),by first|assumption|exact hw',h9⟩
    have hfin: ∀w1,aj h h w w1->aj h [(p, .cells ((kH y).setIfInBounds 1 (.int .i64 (y.u0+n))) 125 (0,0))] w (w1.setCell ⟨p,1,none⟩ (.int .i64 (y.u0+n))):=by
     intro w1 u1
     subst hh
     exact aj.store' (l:=[]) u1 1 (.int .i64 (y.u0+n))
    clear hta htk VH hcf hok hh dQ
    go_enter Tryz.func84,Tryz.ntmps84
    go_wp2_with(go_at_call 126;refine hroom.mono ?_;rintro e w1 ⟨rfl,u1⟩)
    obtain⟨d0,d1,d2,d3,d4,d5⟩:=gu u1.au hy
    rw[hbit]at d5
    have g1:=kT u1.au hy 1
    clear c0 c1 c2 c3 c4 c5 f1 f3 hroom hbit
    refine fQ (by kernel_rfl) (by kernel_rfl) fun w2 hw2=> ?_
    subst hw2
    repeat still_step
    refine wpStill_nil ?_
    go_wp2
    refine fQ (by kernel_rfl) (by kernel_rfl) fun w2 hw2=> ?_
    subst hw2
    have s1:IntKind.i64.wrap (y.f0+y.u0)=y.f0+y.u0:=IntWalk.i64_in _ (by omega)
    have s2:IntKind.i64.wrap (y.u0+n)=y.u0+n:=IntWalk.i64_in _ (by omega)
    repeat still_step
    refine wpStill_nil ?_
    go_wp2
    go_ret2
    exact⟨rfl,_,hH,hfin _ (u1.drew'.drew')⟩
   ·have VH:y.cu=y.u1:=by simp[aJ.cu,dQ]
    have hcf:y.cf=y.f1:=by simp[aJ.cf,dQ]
    have hw':y.u1+n<=y.words:=by unfold aJ.room at hr;omega
    have hbit:mW y.now=1:=by rw[dQ];rfl
    have hta:y.di n=y.f1+y.u1:=by simp[aJ.di,hok,hcf,VH]
    have htk:y.take n={y with u1:=y.u1+n}:=by simp[aJ.take,hok,dQ]
    rw[hok,hta,htk]
    have hH:gy p {y with u1:=y.u1+n} [(p, .cells ((kH y).setIfInBounds 3 (.int .i64 (y.u1+n))) 125 (0,0))]:=⟨rfl,h1,h2,h3,h4,by first|assumption|(show 0<=y.u1+n;omega),by first|assumption|exact hw',by first|assumption|(show 0<=y.u1+n;omega),by first|assumption|exact hw',h9⟩
    have hfin: ∀w1,aj h h w w1->aj h [(p, .cells ((kH y).setIfInBounds 3 (.int .i64 (y.u1+n))) 125 (0,0))] w (w1.setCell ⟨p,3,none⟩ (.int .i64 (y.u1+n))):=by
     intro w1 u1
     subst hh
     exact aj.store' (l:=[]) u1 3 (.int .i64 (y.u1+n))
    clear hta htk VH hcf hok hh dQ
    go_enter Tryz.func84,Tryz.ntmps84
    go_wp2_with(go_at_call 126;refine hroom.mono ?_;rintro e w1 ⟨rfl,u1⟩)
    obtain⟨d0,d1,d2,d3,d4,d5⟩:=gu u1.au hy
    rw[hbit]at d5
    have g1:=kT u1.au hy 3
    clear c0 c1 c2 c3 c4 c5 f1 f3 hroom hbit
    refine fQ (by kernel_rfl) (by kernel_rfl) fun w2 hw2=> ?_
    subst hw2
    repeat still_step
    refine wpStill_nil ?_
    go_wp2
    refine fQ (by kernel_rfl) (by kernel_rfl) fun w2 hw2=> ?_
    subst hw2
    have s1:IntKind.i64.wrap (y.f1+y.u1)=y.f1+y.u1:=IntWalk.i64_in _ (by omega)
    have s2:IntKind.i64.wrap (y.u1+n)=y.u1+n:=IntWalk.i64_in _ (by omega)
    repeat still_step
    refine wpStill_nil ?_
    go_wp2
    go_ret2
    exact⟨rfl,_,hH,hfin _ (u1.drew'.drew')⟩
  ·have hok:y.iZ n=false:=by simp[aJ.iZ];omega
   have hta:y.di n=0:=by simp[aJ.di,hok]
   have htk:y.take n=y:=by simp[aJ.take,hok]
   rw[hok,hta,htk]
   clear hta htk hok
   go_enter Tryz.func84,Tryz.ntmps84
   go_wp2_with(go_at_call 126;refine hroom.mono ?_;rintro e w1 ⟨rfl,u1⟩)
   go_ret2
   exact⟨rfl,_,hy,u1⟩
 ·have hok:y.iZ n=false:=by simp[aJ.iZ];omega
  have hta:y.di n=0:=by simp[aJ.di,hok]
  have htk:y.take n=y:=by simp[aJ.take,hok]
  rw[hok,hta,htk]
  clear hta htk hok
  go_enter Tryz.func84,Tryz.ntmps84
  go_wp2_with(go_at_call 126;refine hroom.mono ?_;rintro e w1 ⟨rfl,u1⟩)
  go_ret2
  exact⟨rfl,_,hy,aj.refl hi⟩
theorem Gi(n:Int)(w:World)(h1:0<=n)(h2:n<=1048576):
  Calls Tryz.prog 131 #[.int .i64 n] w fun e w'=>e= .returned (.int .i64 n)/\w=w':=by
 go_enter Tryz.func131,Tryz.ntmps131
 go_wp2
 all_goals
  go_ret
  first
   |exact⟨rfl,rfl⟩
   | (obtain rfl:n=0:=by omega
      exact⟨rfl,rfl⟩)
def qY(f n:Int):aJ:=⟨f,0,f+n,0,n,false⟩
theorem OZ(f n:Int)(w:World)(h1:0<=f)(h2:f<=1048576)(h3:0<=n)(h4:n<=1048576):
  Calls Tryz.prog 92 #[.int .i64 f, .int .i64 n] w fun e w'=> ∃p h',e= .returned (.pointer (some ⟨p,0,none⟩))/\gy p (qY f n) h'/\aj [] h' w w':=by
 have hH:gy w.heap.size (qY f n) [(w.heap.size, .cells (kH (qY f n)) 125 (0,0))]:=⟨rfl,by simp only[qY,aJ.WF];omega⟩
 have hU:=aj.alloc (In.nil w) (.cells (kH (qY f n)) 125 (0,0))
 go_enter Tryz.func92,Tryz.ntmps92
 go_wp2_with(go_at_call 131;refine(Gi _ _ (by omega) (by omega)).mono ?_;rintro e w1 ⟨rfl,rfl⟩)
 go_ret
 exact⟨_,_,rfl,hH,hU⟩
end Go.Proofs.YtibemcgdmembeaaGreat
namespace Go.Proofs.YtibemcgdmembeaaGreat
open Go.RowKit
structure iq where
 base:Int
 words:Int
 size:Int
 most:Int
 nb:jL
 nc:bz
 tb:jL
 tc:bz
def iq.WF(s:iq):Prop:=0<s.base/\s.base<=1048576/\0<=s.words/\s.words<=1048576/\1<=s.size/\s.size<=1048576/\0<=s.most/\s.most<=1048576
structure O0 where
 bm:Nat
 bf:Nat
 bw:Nat
 bs:Nat
 nb:Nat
 nc:Nat
 tb:Nat
 tc:Nat
def ptr(b:Nat):Value:= .pointer (some ⟨b,0,none⟩)
def EN(q:O0):Value:= .func (.func 132) #[] #[ptr q.bm,ptr q.bf,ptr q.bw,ptr q.bs]
def fJ(q:O0)(s:iq):Hp:=[(q.bm, .cells #[.int .i64 s.most] 3 (0,0)),(q.bs, .cells #[.int .i64 s.size] 3 (0,0)),(q.bw, .cells #[.int .i64 s.words] 3 (0,0)),(q.bf, .cells #[.int .i64 s.base] 3 (0,0))]
def EO(q:O0)(s:iq):Obj:= .cells #[.int .i64 s.base, .int .i64 s.words,EN q,ptr q.nb,ptr q.nc,ptr q.tb,ptr q.tc] 165 (0,0)
def uA(p:Nat)(s:iq)(h:Hp):Prop:=
 ∃q h1 h2 h3 h4,h=[(p,EO q s)::fJ q s,h1,h2,h3,h4].flatten/\yG q.nb s.nb h1/\oq q.nc s.nc h2/\yG q.tb s.tb h3/\oq q.tc s.tc h4/\s.WF
theorem VW{w:World}{k a b c d o1 o2:Nat}{x1 x2 v1 v2 v3 v4:Value}(h:w.cell? ⟨a,0,none⟩=some v1/\w.cell? ⟨b,0,none⟩=some v2/\w.cell? ⟨c,0,none⟩=some v3/\w.cell? ⟨d,0,none⟩=some v4)(m1:k≠a)(m2:k≠b)(m3:k≠c)(m4:k≠d):
  ((w.setCell ⟨k,o1,none⟩ x1).setCell ⟨k,o2,none⟩ x2).cell? ⟨a,0,none⟩=some v1/\ ((w.setCell ⟨k,o1,none⟩ x1).setCell ⟨k,o2,none⟩ x2).cell? ⟨b,0,none⟩=some v2/\
  ((w.setCell ⟨k,o1,none⟩ x1).setCell ⟨k,o2,none⟩ x2).cell? ⟨c,0,none⟩=some v3/\ ((w.setCell ⟨k,o1,none⟩ x1).setCell ⟨k,o2,none⟩ x2).cell? ⟨d,0,none⟩=some v4:=by
 have e: ∀z v,k≠z->w.cell? ⟨z,0,none⟩=some v->((w.setCell ⟨k,o1,none⟩ x1).setCell ⟨k,o2,none⟩ x2).cell? ⟨z,0,none⟩=some v:=by
  intro z v hz hv
  rw[World.cell?_setCell_other _ _ _ _ (by simp[hz]),World.cell?_setCell_other _ _ _ _ (by simp[hz])]
  exact hv
 exact⟨e a v1 m1 h.1,e b v2 m2 h.2.1,e c v3 m3 h.2.2.1,e d v4 m4 h.2.2.2⟩
theorem Gj(q:O0)(s:iq)(w:World)(hi:In w (fJ q s))(hs:s.WF):
  Calls Tryz.prog 132 #[ptr q.bm,ptr q.bf,ptr q.bw,ptr q.bs] w fun e w'=> ∃b c h1 h2,e= .returned (.agg #[ptr b,ptr c])/\yG b ⟨s.most,[]⟩ h1/\oq c (fF s.base s.words s.size) h2/\aj [] (h2++h1) w w':=by
 obtain⟨s1,s2,s3,s4,s5,s6,s7,s8⟩:=hs
 obtain⟨n,hn⟩: ∃n:Nat,s.most=n:=⟨s.most.toNat,by omega⟩
 have hbn:=fun W=>QX n W (by omega)
 rw[<-hn]at hbn
 clear hn
 have hcn:=fun W=>OX s.base s.words s.size W s1 s2 s3 s4 s5 s6
 have U0:=(aj.alloc (In.nil w) (.cells #[.pointer none, .pointer none] 160 (0,0))).drew'
 have b0: ∀w',Below w.heap.size w w'->w'.cell? ⟨q.bm,0,none⟩=some (.int .i64 s.most)/\w'.cell? ⟨q.bf,0,none⟩=some (.int .i64 s.base)/\w'.cell? ⟨q.bw,0,none⟩=some (.int .i64 s.words)/\w'.cell? ⟨q.bs,0,none⟩=some (.int .i64 s.size):=by
  intro w' hb
  have l:=fun b (hb:b∈(fJ q s).map Prod.fst)=>hi.lt hb
  refine⟨?_, ?_, ?_, ?_⟩
  ·exact(hb.cell (p:=⟨q.bm,0,none⟩) (l _ (by simp[fJ]))).trans (cell_of (hi.mem (b:=q.bm) (o:= .cells #[.int .i64 s.most] 3 (0,0)) (by simp[fJ])) 0)
  ·exact(hb.cell (p:=⟨q.bf,0,none⟩) (l _ (by simp[fJ]))).trans (cell_of (hi.mem (b:=q.bf) (o:= .cells #[.int .i64 s.base] 3 (0,0)) (by simp[fJ])) 0)
  ·exact(hb.cell (p:=⟨q.bw,0,none⟩) (l _ (by simp[fJ]))).trans (cell_of (hi.mem (b:=q.bw) (o:= .cells #[.int .i64 s.words] 3 (0,0)) (by simp[fJ])) 0)
  ·exact(hb.cell (p:=⟨q.bs,0,none⟩) (l _ (by simp[fJ]))).trans (cell_of (hi.mem (b:=q.bs) (o:= .cells #[.int .i64 s.size] 3 (0,0)) (by simp[fJ])) 0)
 have hB0:=b0 _ (U0.forget (k:=[]) (List.nil_sublist _)).below
 have HB:=Lib.hid b0
 clear b0
 have m1:w.heap.size≠q.bm:=Ne.symm (Nat.ne_of_lt (hi.lt (by simp[fJ])))
 have m2:w.heap.size≠q.bf:=Ne.symm (Nat.ne_of_lt (hi.lt (by simp[fJ])))
 have m3:w.heap.size≠q.bw:=Ne.symm (Nat.ne_of_lt (hi.lt (by simp[fJ])))
 have m4:w.heap.size≠q.bs:=Ne.symm (Nat.ne_of_lt (hi.lt (by simp[fJ])))
 simp only[ptr]at*
 go_enter Tryz.func132,Tryz.ntmps132
 go_wp2
 go_region_held3 (fun w'=>w'.cell? ⟨q.bm,0,none⟩=some (.int .i64 s.most)/\w'.cell? ⟨q.bf,0,none⟩=some (.int .i64 s.base)/\w'.cell? ⟨q.bw,0,none⟩=some (.int .i64 s.words)/\w'.cell? ⟨q.bs,0,none⟩=some (.int .i64 s.size))
  (first|exact hB2|exact hB1|exact hB0|exact VW hB2 m1 m2 m3 m4|go_keep)
  (first|(go_at_call 133;(refine Calls.mono (hbn _) ?_;rintro e w1 ⟨p1,h1,rfl,b1,u1⟩;have U1:=U0.more u1;have hB1:=HB.out _ (U1.forget (k:=[]) (List.nil_sublist _)).below))|(go_at_call 134;refine Calls.mono (hcn _) ?_;rintro e w2 ⟨p2,h2,rfl,b2,u2⟩;have U2:=U1.more u2;have hB2:=HB.out _ (U2.forget (k:=[]) (List.nil_sublist _)).below;have d0:w2.cell? ⟨w.heap.size,0,none⟩=some (.pointer none):=cell_of (U2.au.mem (b:=w.heap.size) (o:= .cells #[.pointer none, .pointer none] 160 (0,0)) (by simp)) 0;have d1:w2.cell? ⟨w.heap.size,1,none⟩=some (.pointer none):=cell_of (U2.au.mem (b:=w.heap.size) (o:= .cells #[.pointer none, .pointer none] 160 (0,0)) (by simp)) 1;have f0:w2.frozen? ⟨w.heap.size,0,none⟩=false:=aO (U2.au.mem (b:=w.heap.size) (o:= .cells #[.pointer none, .pointer none] 160 (0,0)) (by simp)) 0;have f1:w2.frozen? ⟨w.heap.size,1,none⟩=false:=aO (U2.au.mem (b:=w.heap.size) (o:= .cells #[.pointer none, .pointer none] 160 (0,0)) (by simp)) 1))
 go_wp2
 rw[<-List.append_assoc]at U2
 have UF:=(U2.store' (l:=h2++h1) (r:=[]) 0 (.pointer (some ⟨p1,0,none⟩))).store' (l:=h2++h1) (r:=[]) 1 (.pointer (some ⟨p2,0,none⟩))
 have g:=UF.au.mem (b:=w.heap.size) (o:= .cells #[.pointer (some ⟨p1,0,none⟩), .pointer (some ⟨p2,0,none⟩)] 160 (0,0)) (by simp)
 have g0:=cell_of g 0
 have g1:=cell_of g 1
 clear d0 d1 f0 f1 g
 refine bodyPost_ret (v:= .agg #[.pointer (some ⟨p1,0,none⟩), .pointer (some ⟨p2,0,none⟩)]) ?_ rfl ⟨_,_,_,_,rfl,b1,b2,UF.forget (List.sublist_append_left _ _)⟩
 simp only[results,Tryz.results132]
 simp[go_sem,g0,g1]
theorem VX{α:Type}(x:α)(a b c d e:List α):(x::((d++c)++((b++a)++e))).Perm ([x::e,a,b,c,d].flatten):=by
 have h1:((d++c)++((b++a)++e)).Perm ((e++(a++b))++(c++d)):=
  (List.perm_append_comm).trans (((List.perm_append_comm).trans (List.perm_append_comm.append_left e)).append List.perm_append_comm)
 simpa using h1.cons x
theorem Q9(b n c m:Int)(w:World)(h1:0<b)(h2:b<=1048576)(h3:0<=n)(h4:n<=1048576)(h5:1<=c)(h6:c<=1048576)(h7:0<=m)(h8:m<=1048576):
  Calls Tryz.prog 95 #[.int .i64 b, .int .i64 n, .int .i64 c, .int .i64 m] w fun e w'=> ∃p h',e= .returned (.pointer (some ⟨p,0,none⟩))/\uA p ⟨b,n,c,m,⟨m,[]⟩,fF b n c,⟨m,[]⟩,fF b n c⟩ h'/\aj [] h' w w':=by
 have key: ∀hn:n=0∨0<n,Calls Tryz.prog 95 #[.int .i64 b, .int .i64 n, .int .i64 c, .int .i64 m] w fun e w'=> ∃p h',e= .returned (.pointer (some ⟨p,0,none⟩))/\uA p ⟨b,n,c,m,⟨m,[]⟩,fF b n c,⟨m,[]⟩,fF b n c⟩ h'/\aj [] h' w w':=by
  intro hn
  have hside:=fun W (hi:In W (fJ ⟨w.heap.size+1+1+1,w.heap.size,w.heap.size+1,w.heap.size+1+1,0,0,0,0⟩ ⟨b,n,c,m,⟨m,[]⟩,fF b n c,⟨m,[]⟩,fF b n c⟩))=>
   Gj ⟨w.heap.size+1+1+1,w.heap.size,w.heap.size+1,w.heap.size+1+1,0,0,0,0⟩ ⟨b,n,c,m,⟨m,[]⟩,fF b n c,⟨m,[]⟩,fF b n c⟩ W hi ⟨h1,h2,h3,h4,h5,h6,h7,h8⟩
  have U0:=((((((aj.alloc (In.nil w) (.cells #[.int .i64 b] 3 (0,0))).alloc' (.cells #[.int .i64 n] 3 (0,0))).alloc' (.cells #[.int .i64 c] 3 (0,0))).alloc' (.cells #[.int .i64 m] 3 (0,0))).drew').drew')
  simp only[World.size_alloc]at U0
  have hfin: ∀q w3 x1 x2 x3 x4,q=O0.mk (w.heap.size+1+1+1) w.heap.size (w.heap.size+1) (w.heap.size+1+1) q.nb q.nc q.tb q.tc->yG q.nb ⟨m,[]⟩ x1->oq q.nc (fF b n c) x2->yG q.tb ⟨m,[]⟩ x3->oq q.tc (fF b n c) x4->
    aj [] ((x4++x3)++((x2++x1)++(fJ q ⟨b,n,c,m,⟨m,[]⟩,fF b n c,⟨m,[]⟩,fF b n c⟩))) w w3->
    ∃h',uA w3.heap.size ⟨b,n,c,m,⟨m,[]⟩,fF b n c,⟨m,[]⟩,fF b n c⟩ h'/\aj [] h' w (w3.alloc (EO q ⟨b,n,c,m,⟨m,[]⟩,fF b n c,⟨m,[]⟩,fF b n c⟩)):=by
   intro q w3 x1 x2 x3 x4 _ y1 y2 y3 y4 U
   exact⟨_,⟨q,x1,x2,x3,x4,rfl,y1,y2,y3,y4,⟨h1,h2,h3,h4,h5,h6,h7,h8⟩⟩,(U.alloc' _).perm (List.Perm.refl _) (VX _ _ _ _ _ _)⟩
  have hbox: ∀W,In W [(w.heap.size+1+1+1, .cells #[.int .i64 m] 3 (0,0)),(w.heap.size+1+1, .cells #[.int .i64 c] 3 (0,0)),(w.heap.size+1, .cells #[.int .i64 n] 3 (0,0)),(w.heap.size, .cells #[.int .i64 b] 3 (0,0))]->
    W.cell? ⟨w.heap.size,0,none⟩=some (.int .i64 b)/\W.cell? ⟨w.heap.size+1,0,none⟩=some (.int .i64 n):=
   fun W hi=>⟨cell_of (hi.mem (b:=w.heap.size) (o:= .cells #[.int .i64 b] 3 (0,0)) (by simp)) 0,cell_of (hi.mem (b:=w.heap.size+1) (o:= .cells #[.int .i64 n] 3 (0,0)) (by simp)) 0⟩
  have HF:=Lib.hid hfin
  have HS:=Lib.hid hside
  have HB:=Lib.hid hbox
  clear hfin hside hbox
  rcases hn with rfl|hn
  ·go_enter Tryz.func95,Tryz.ntmps95
   go_wp2
   go_region
   go_wp2
   have hB0:=HB.out _ U0.au
   go_region_held3 (fun w'=>w'.cell? ⟨w.heap.size,0,none⟩=some (.int .i64 b)/\w'.cell? ⟨w.heap.size+1,0,none⟩=some (.int .i64 0))
    (first|exact hB2|exact hB1|exact hB0|go_keep)
    (first|(go_at_call 132;refine Calls.mono (HS.out _ U0.au) ?_;rintro e w1 ⟨p1,p2,x1,x2,rfl,y1,y2,u1⟩;have U1:=U0.more u1;have hB1:=HB.out _ U1.au.right;clear U0 hB0;simp only[ptr])|(go_at_call 132;refine Calls.mono (HS.out _ U1.au.right) ?_;rintro e w2 ⟨p3,p4,x3,x4,rfl,y3,y4,u2⟩;have U2:=U1.more u2;have hB2:=HB.out _ U2.au.right.right;clear U1 hB1;simp only[ptr]))
   go_wp2
   obtain⟨h',hR,hU⟩:=HF.out ⟨w.heap.size+1+1+1,w.heap.size,w.heap.size+1,w.heap.size+1+1,p1,p2,p3,p4⟩ w2 x1 x2 x3 x4 rfl y1 y2 y3 y4 U2
   go_ret
   exact⟨_,h',rfl,hR,hU⟩
  ·go_enter Tryz.func95,Tryz.ntmps95
   go_wp2
   go_region
   go_wp2
   have hB0:=HB.out _ U0.au
   go_region_held3 (fun w'=>w'.cell? ⟨w.heap.size,0,none⟩=some (.int .i64 b)/\w'.cell? ⟨w.heap.size+1,0,none⟩=some (.int .i64 n))
    (first|exact hB2|exact hB1|exact hB0|go_keep)
    (first|(go_at_call 132;refine Calls.mono (HS.out _ U0.au) ?_;rintro e w1 ⟨p1,p2,x1,x2,rfl,y1,y2,u1⟩;have U1:=U0.more u1;have hB1:=HB.out _ U1.au.right;clear U0 hB0;simp only[ptr])|(go_at_call 132;refine Calls.mono (HS.out _ U1.au.right) ?_;rintro e w2 ⟨p3,p4,x3,x4,rfl,y3,y4,u2⟩;have U2:=U1.more u2;have hB2:=HB.out _ U2.au.right.right;clear U1 hB1;simp only[ptr]))
   go_wp2
   obtain⟨h',hR,hU⟩:=HF.out ⟨w.heap.size+1+1+1,w.heap.size,w.heap.size+1,w.heap.size+1+1,p1,p2,p3,p4⟩ w2 x1 x2 x3 x4 rfl y1 y2 y3 y4 U2
   go_ret
   exact⟨_,h',rfl,hR,hU⟩
 exact key (by omega)
def iq.has(s:iq)(i:Int):Bool:=decide (s.base<=i/\i-s.base<s.words)
def iq.add(s:iq)(i:Int):iq:=if s.has i then(if s.nb.full then {s with nc:=s.nc.mark i}else {s with nb:=s.nb.put i})else s
def iq.xC(s:iq)(i:Int):Bool:=s.has i&& (!s.nb.full||s.nc.has i)
theorem Q_(p:Nat)(s:iq)(i:Int)(w:World)(h:Hp)(hi:In w h)(hr:uA p s h)(hx:I64 i):
  Calls Tryz.prog 143 #[.pointer (some ⟨p,0,none⟩), .int .i64 i] w fun e w'=>e= .returned (.bool (s.xC i))/\ ∃h',uA p (s.add i) h'/\aj h h' w w':=by
 obtain⟨q,h1,h2,h3,h4,rfl,y1,y2,y3,y4,hwf⟩:=hr
 have Rh:=hwf
 obtain⟨w1,w2,w3,w4,w5,w6,w7,w8⟩:=hwf
 have hb:=(hi.part (i:=0) rfl).head
 have e0:w.cell? ⟨p,0,none⟩=some (.int .i64 s.base):=cell_of hb 0
 have e1:w.cell? ⟨p,1,none⟩=some (.int .i64 s.words):=cell_of hb 1
 have e3:w.cell? ⟨p,3,none⟩=some (.pointer (some ⟨q.nb,0,none⟩)):=cell_of hb 3
 obtain⟨x1,x2⟩:=hx
 clear hb
 by_cases k1:s.base<=i
 ·have g3:IntKind.i64.wrap (i-s.base)=i-s.base:=IntWalk.i64_in _ (by omega)
  have d1:decide (i<s.base)=false:=decide_eq_false (by omega)
  by_cases k2:i-s.base<s.words
  ·have d2:decide (s.words<=i-s.base)=false:=decide_eq_false (by omega)
   have hh:s.has i=true:=by simp[iq.has,k1,k2]
   have hput:=fun W (oz:In W h1)=>QW q.nb s.nb i W h1 oz y1 ⟨x1,x2⟩
   have DU:=fun W (oz:In W h2)=>LY q.nc s.nc i W h2 oz y2 ⟨x1,x2⟩
   cases hf:s.nb.full
   ·have ha:s.add i={s with nb:=s.nb.put i}:=by rw[iq.add,if_pos hh,hf];rfl
    have ho:s.xC i=true:=by simp[iq.xC,hh,hf]
    rw[ha,ho]
    rw[hf]at hput
    clear ha ho hh hf
    go_enter Tryz.func143,Tryz.ntmps143
    go_wp2
    go_quiet (fail)
    have U0:=aj.drewN hi nq
    go_wp2_with(go_at_call 159;refine Calls.mono (hput _ (U0.au.part (i:=1) rfl)) ?_;rintro e w9 ⟨rfl,h1',y1',u1⟩;have U1:=U0.fH (i:=1) rfl u1)
    go_ret
    exact⟨rfl,_,⟨q,h1',h2,h3,h4,rfl,y1',y2,y3,y4,Rh⟩,U1⟩
   ·have hbp:s.nb.put i=s.nb:=by rw[jL.put,hf];rfl
    have ha:s.add i={s with nc:=s.nc.mark i}:=by rw[iq.add,if_pos hh,hf];rfl
    have ho:s.xC i=s.nc.has i:=by simp[iq.xC,hh,hf]
    rw[ha,ho]
    rw[hf,hbp]at hput
    clear ha ho hh hf hbp
    go_enter Tryz.func143,Tryz.ntmps143
    go_wp2
    go_quiet (fail)
    have U0:=aj.drewN hi nq
    go_wp2_with(first|(go_at_call 159;refine Calls.mono (hput _ (U0.au.part (i:=1) rfl)) ?_;rintro e w9 ⟨rfl,h1',y1',u1⟩;have U1:=U0.fH (i:=1) rfl u1;have e4:w9.cell? ⟨p,4,none⟩=some (.pointer (some ⟨q.nc,0,none⟩)):=cell_of (U1.au.part (i:=0) rfl).head 4)|(go_at_call 160;refine Calls.mono (DU _ (U1.au.part (i:=2) rfl)) ?_;rintro e w10 ⟨rfl,h2',y2',u2⟩;have U2:=U1.fH (i:=2) rfl u2))
    go_ret
    exact⟨rfl,_,⟨q,h1',h2',h3,h4,rfl,y1',y2',y3,y4,Rh⟩,U2⟩
  ·have d2:decide (s.words<=i-s.base)=true:=decide_eq_true (by omega)
   have hh:s.has i=false:=by simp[iq.has,k2]
   have ha:s.add i=s:=by simp[iq.add,hh]
   have ho:s.xC i=false:=by simp[iq.xC,hh]
   rw[ha,ho]
   clear ha ho hh
   go_enter Tryz.func143,Tryz.ntmps143
   go_wp2
   go_quiet (fail)
   go_wp2
   go_ret
   exact⟨rfl,_,⟨q,h1,h2,h3,h4,rfl,y1,y2,y3,y4,Rh⟩,aj.drewN hi nq⟩
 ·have d1:decide (i<s.base)=true:=decide_eq_true (by omega)
  have hh:s.has i=false:=by simp[iq.has,k1]
  have ha:s.add i=s:=by simp[iq.add,hh]
  have ho:s.xC i=false:=by simp[iq.xC,hh]
  rw[ha,ho]
  clear ha ho hh
  go_enter Tryz.func143,Tryz.ntmps143
  go_wp2
  go_quiet (fail)
  go_wp2
  go_ret
  exact⟨rfl,_,⟨q,h1,h2,h3,h4,rfl,y1,y2,y3,y4,Rh⟩,aj.drewN hi nq⟩
end Go.Proofs.YtibemcgdmembeaaGreat
namespace Go.Proofs.YtibemcgdmembeaaGreat
open Go.RowKit
structure bZ where
 most:Int
 list:List Int
 lost:Bool
def bZ.WF(s:bZ):Prop:=0<=s.most/\s.most<=1048576/\s.list.length<=s.most/\ ∀x∈s.list,I64 x
def nY(s:bZ)(v:Value):Obj:= .cells #[.int .i64 s.most,v, .bool s.lost] 167 (0,0)
def lQ(p:Nat)(s:bZ)(h:Hp):Prop:=
 ∃v hs,h=(p,nY s v)::hs/\aK 3 1 v s.list.length (ints s.list) hs/\s.WF
def bZ.full(s:bZ):Bool:=decide (s.most<=s.list.length)
def bZ.push(s:bZ)(x:Int):bZ:=if s.full then {s with lost:=true}else {s with list:=s.list++[x]}
theorem DV(p:Nat)(s:bZ)(x:Int)(w:World)(h:Hp)(hi:In w h)(hg:lQ p s h)(hx:I64 x):
  Calls Tryz.prog 141 #[.pointer (some ⟨p,0,none⟩), .int .i64 x] w fun e w'=>e= .returned (.bool (!s.full))/\ ∃h',lQ p (s.push x) h'/\aj h h' w w':=by
 obtain⟨v,hs,rfl,hS,w1,w2,w3,w4⟩:=hg
 have hv:=hS.shape
 obtain⟨ao,cap,rfl,hcap⟩:=hv
 have e0:w.cell? ⟨p,0,none⟩=some (.int .i64 s.most):=cell_of hi.head 0
 have e1:w.cell? ⟨p,1,none⟩=some (.slice ao s.list.length cap):=cell_of hi.head 1
 have e2:w.cell? ⟨p,2,none⟩=some (.bool s.lost):=cell_of hi.head 2
 have f1:w.frozen? ⟨p,1,none⟩=false:=aO hi.head 1
 have f2:w.frozen? ⟨p,2,none⟩=false:=aO hi.head 2
 by_cases hf:s.most<=s.list.length
 ·have hb:s.full=true:=by simp[bZ.full,hf]
  have hp:s.push x={s with lost:=true}:=by simp[bZ.push,hb]
  rw[hb,hp]
  have hU:=aj.store1 (aj.drew (aj.refl hi).au) 2 (.bool true)
  clear hb hp
  go_enter Tryz.func141,Tryz.ntmps141
  go_wp2
  refine fQ (by kernel_rfl) (by kernel_rfl) fun w1 hw1=> ?_
  subst hw1
  repeat still_step
  refine wpStill_nil ?_
  go_wp2
  go_ret
  exact⟨rfl,_,⟨_,_,rfl,hS,w1,w2,w3,w4⟩,hU⟩
 ·have hb:s.full=false:=by simp[bZ.full];omega
  have hp:s.push x={s with list:=s.list++[x]}:=by simp[bZ.push,hb]
  rw[hb,hp]
  have U1:=((aj.refl hi).drew').skip' (.cells #[.int .i64 x] 3 (0,0))
  have hnews:=kF (news:=[.int .i64 x]) (w:=w.drew.alloc (.cells #[.int .i64 x] 3 (0,0))) (b:=w.heap.size) (T:=3) (fr:=(0,0)) (aV (by simp))
  have hl:((s.list.length:Nat):Int)<s.most:=by omega
  have hmax:s.list.length+1<=maxLen:=by unfold maxLen;omega
  have hmem: ∀y∈s.list++[x],I64 y:=by
   intro y hy
   rcases List.mem_append.1 hy with h1|h1
   ·exact w4 y h1
   ·simp at h1;exact h1▸hx
  have H1:=Lib.hid hnews
  clear hb hp hnews
  go_enter Tryz.func141,Tryz.ntmps141
  go_wp2
  refine fQ (by kernel_rfl) (by kernel_rfl) fun w1 hw1=> ?_
  subst hw1
  repeat still_step
  refine wpStill_nil ?_
  go_wp2_with(at_builtin;refine cO rfl (.tmp 24) (.tmp 26) 41 rfl 3 1 8 (.int .i64 0) Tryz.underlying41 Tryz.kG rfl (by decide) (.slice ao s.list.length cap) s.list.length (ints s.list) hs rfl hS U1.au.tail ⟨w.heap.size,0,none⟩ 1 1 [.int .i64 x] rfl H1.out rfl (by intro u hu;simp at hu;subst hu;rfl) (Or.inl (by decide)) hmax (by omega) ?_;intro v' w3 hX' hS' qG;obtain⟨ao',cap',rfl,_⟩:=hS'.shape;have U2:=U1.under qG;have g1:w3.cell? ⟨p,1,none⟩=some (.slice ao s.list.length cap):=cell_of U2.au.head 1;have k1:w3.frozen? ⟨p,1,none⟩=false:=aO U2.au.head 1)
  go_ret
  refine⟨rfl,_,⟨.slice ao' (s.list.length+1) cap',hX',rfl, ?_,w1,w2, ?_,hmem⟩,U2.store1 1 (.slice ao' (s.list.length+1) cap')⟩
  ·simpa[ints]using hS'
  ·simp;omega
theorem O1(n:Nat)(w:World)(h0:0<n)(h1:n<=1048576):
  Calls Tryz.prog 96 #[.int .i64 n] w fun e w'=> ∃p h',e= .returned (.pointer (some ⟨p,0,none⟩))/\lQ p ⟨n,[],false⟩ h'/\aj [] h' w w':=by
 have hU:=aj.alloc (In.nil w) (nY ⟨n,[],false⟩ (.slice none 0 0))
 have hH:lQ w.heap.size ⟨n,[],false⟩ [(w.heap.size,nY ⟨n,[],false⟩ (.slice none 0 0))]:=
  ⟨_,[],rfl,aK.nil _ _,by simp only[bZ.WF,List.length_nil];omega,by simp only;omega,by simp only[List.length_nil];omega,by simp⟩
 have h0':(0:Int)<n:=by omega
 have h1':(n:Int)<=1048576:=by omega
 go_enter Tryz.func96,Tryz.ntmps96
 go_wp2
 go_ret
 exact⟨_,_,rfl,hH,hU⟩
end Go.Proofs.YtibemcgdmembeaaGreat
namespace Go.Proofs.YtibemcgdmembeaaGreat
open Go.RowKit
theorem Ri(p:Nat)(s:jL)(w:World)(h:Hp)(hi:In w h)(hg:yG p s h):
  Calls Tryz.prog 181 #[.pointer (some ⟨p,0,none⟩)] w fun e w'=>e= .returned (.int .i64 s.list.length)/\w'=w:=by
 obtain⟨v,hs,rfl,hS,w1,w2,w3,w4⟩:=hg
 obtain⟨ao,cap,rfl,hcap⟩:=hS.shape
 have e1:w.cell? ⟨p,1,none⟩=some (.slice ao s.list.length cap):=cell_of hi.head 1
 go_enter Tryz.func181,Tryz.ntmps181
 go_wp2
 go_ret
 exact⟨rfl,rfl⟩
def jE(l:List Bool):Nat:=(l.filter id).length
theorem DW(l:List Bool):jE l<=l.length:=List.length_filter_le _ _
theorem Gl(l:List Bool)(k:Nat)(h:k<l.length):jE (l.take (k+1))=jE (l.take k)+if l.getD k false then 1 else 0:=by
 have e:l.getD k false=l[k]:=by simp[List.getD,h]
 rw[List.take_succ_eq_append_getElem h,e]
 unfold jE
 rw[List.filter_append,List.length_append]
 congr 1
 cases l[k]<;>rfl
theorem xE{s:bz}(h:s.WF):s.marks.length<=1048576:=by
 obtain⟨_,_,h3,h4,h5,_,h7⟩:=h
 have:=qg h3 h4 h5
 omega
theorem I5(p:Nat)(s:bz)(w:World)(h:Hp)(hi:In w h)(hg:oq p s h):
  Calls Tryz.prog 182 #[.pointer (some ⟨p,0,none⟩)] w fun e w'=>e= .returned (.int .i64 (jE s.marks))/\w'=w:=by
 obtain⟨b,rfl,hwf⟩:=hg
 have hle:=xE hwf
 have e3:w.cell? ⟨p,3,none⟩=some (.slice (some ⟨b,0,none⟩) s.marks.length s.marks.length):=cell_of hi.head 3
 have hc: ∀k,k<s.marks.length->w.cell? ⟨b,k,none⟩=some (.bool (s.marks.getD k false)):=by
  intro k hk
  rw[cell_of hi.tail.head k]
  simp[List.getD,hk]
 have HC:=Lib.hid hc
 clear hc hwf
 go_enter Tryz.func182,Tryz.ntmps182
 go_wp2
 go_loop [3,13] (fun n i=> ∃k:Nat,k<=s.marks.length/\i= .int .i64 k/\n= .int .i64 (jE (s.marks.take k))) (fun _ i=>s.marks.length-(intOf i).toNat)
 case atStart=>exact⟨0,by omega,rfl,rfl⟩
 case round=>
  obtain⟨k,hk,rfl,rfl⟩:=hrel
  by_cases hlt:k<s.marks.length
  ·have h1:=HC.out k hlt
   have h2:=Gl s.marks k hlt
   have h3:=DW (s.marks.take k)
   have h4:(s.marks.take k).length<=k:=List.length_take_le _ _
   generalize jE (s.marks.take k)=m at*
   cases hb:s.marks.getD k false
   ·rw[hb]at h1 h2
    have H2:=Lib.hid h2
    clear h2 hb
    go_wp2
    go_round
    case rel=>exact⟨k+1,by omega,by go_num,by rw[H2.out];rfl⟩
    case measure=>simp[intOf];omega
   ·rw[hb]at h1 h2
    have H2:=Lib.hid h2
    clear h2 hb
    go_wp2
    go_round
    case rel=>exact⟨k+1,by omega,by go_num,by rw[H2.out];go_num⟩
    case measure=>simp[intOf];omega
  ·rw[List.take_of_length_le (show s.marks.length<=k by omega)]
   go_wp2
   go_ret
   exact⟨rfl,rfl⟩
end Go.Proofs.YtibemcgdmembeaaGreat
namespace Go.Proofs.YtibemcgdmembeaaGreat
open Go.RowKit
theorem xG(v:Value)(n:Nat)(l:List Int)(w:World)(h:Hp)(hi:In w h)(hs:aK 3 1 v n (ints l) h)(hn:n<=1048576):
  Calls Tryz.prog 114 #[v] w fun e w'=> ∃v' h',e= .returned v'/\aK 3 1 v' n (ints l) h'/\aj [] h' w w':=by
 by_cases hz:v= .slice none 0 0
 ·subst hz
  have hn0:n=0:=by
   rcases hs.2 with⟨_,h0,_⟩|⟨g',pre,post,cap',h1,_⟩
   ·exact h0
   ·cases h1
  have hl0:ints l=[]:=List.eq_nil_of_length_eq_zero (by have:=hs.1;omega)
  rw[hl0,hn0]
  have hq:=Lib.run_eql_slice_nil (P:=Tryz.prog) w 41 3 none 0 0 0 0 Tryz.underlying41
  go_enter Tryz.func114,Tryz.ntmps114
  go_wp2
  go_ret
  exact⟨_,_,rfl,aK.nil _ _,aj.refl (In.nil w)⟩
 ·obtain⟨g,off,cap,rfl,hcap⟩: ∃g off cap,v= .slice (some ⟨g,off,none⟩) n cap/\n<=cap:=by
   rcases hs.2 with⟨h1,_,_⟩|⟨g',pre,post,cap',rfl,rfl,hc,_,_⟩
   ·exact absurd h1 hz
   ·exact⟨_,_,_,rfl,hc⟩
  clear hz
  have hnews:=hs.news hi rfl
  have hlen:(ints l).length=n*1:=hs.1
  have h1: ∀u∈ints l,u.oneCell'=true:=by intro u hu;simp at hu;obtain⟨x,_,rfl⟩:=hu;rfl
  have hnews': ∀j u,(ints l)[j]? =some u->(w.alloc (.cells #[] 3 (0,0))).cell? ((⟨g,off,none⟩:Addr).add j)=some u:=by
   intro j u hj
   have h2:=hnews j u hj
   rw[World.cell?_alloc_lt _ _ _ (World.block_lt_of_cell? _ _ h2)]
   exact h2
  have he:aK 3 1 (.slice (some ⟨w.heap.size,0,none⟩) 0 0) 0 [] [(w.heap.size, .cells #[] 3 (0,0))]:=⟨rfl, .inr ⟨w.heap.size,[],[],0,rfl,rfl,Nat.le_refl _,by simp,by simp[maxLen]⟩⟩
  have hU:=aj.alloc (In.nil w) (.cells #[] 3 (0,0))
  have hin:=hU.au
  have hmax:0+n<=maxLen:=by unfold maxLen;omega
  have H1:=Lib.hid hnews'
  have H2:=Lib.hid h1
  have H3:=Lib.hid hlen
  clear hnews hnews' h1 hlen
  have hq:=Lib.run_eql_slice_nil (P:=Tryz.prog) w 41 3 (some ⟨g,off,none⟩) n cap 0 0 Tryz.underlying41
  go_enter Tryz.func114,Tryz.ntmps114
  go_wp2_with(at_builtin;refine cO rfl (.tmp 5) (.tmp 6) 41 rfl 3 1 8 (.int .i64 0) Tryz.underlying41 Tryz.kG rfl (by decide) (.slice (some ⟨w.heap.size,0,none⟩) 0 0) 0 [] _ rfl he hin ⟨g,off,none⟩ n cap (ints l) rfl H1.out H3.out H2.out (Or.inr (by simp)) hmax (by omega) ?_;intro v' w1 hX' hS qG)
  go_ret
  exact⟨v',hX',rfl,by simpa using hS,hU.trans qG⟩
theorem uB(v:Value)(n:Nat)(l:List Int)(w:World)(h:Hp)(hs:aK 3 1 v n (ints l) h)(hn:n<=1048576):
  Calls Tryz.prog 63 #[v] w fun e w'=> ∃v',e= .returned v'/\aK 3 1 v' n (ints l) h/\w=w':=by
 by_cases hz:v= .slice none 0 0
 ·subst hz
  have hn0:n=0:=by
   rcases hs.2 with⟨_,h0,_⟩|⟨g',pre,post,cap',h1,_⟩
   ·exact h0
   ·cases h1
  subst hn0
  go_enter Tryz.func63,Tryz.ntmps63
  go_wp2
  go_ret
  exact⟨_,rfl,hs,rfl⟩
 ·obtain⟨g,off,cap,rfl,hcap⟩: ∃g off cap,v= .slice (some ⟨g,off,none⟩) n cap/\n<=cap:=by
   rcases hs.2 with⟨h1,_,_⟩|⟨g',pre,post,cap',rfl,rfl,hc,_,_⟩
   ·exact absurd h1 hz
   ·exact⟨_,_,_,rfl,hc⟩
  clear hz
  have hs':=hs.clip
  go_enter Tryz.func63,Tryz.ntmps63
  go_wp2
  go_ret
  exact⟨_,rfl,hs',rfl⟩
theorem L9(p:Nat)(l:List Int)(w:World)(h:Hp)(hi:In w h)(ht:lH p l h):
  Calls Tryz.prog 65 #[.pointer (some ⟨p,0,none⟩)] w fun e w'=> ∃v h',e= .returned v/\aK 3 1 v l.length (ints l) h'/\aj [] h' w w':=by
 obtain⟨b,rfl,hl,hu⟩:=ht
 have e0:w.cell? ⟨p,0,none⟩=some (.slice (some ⟨b,0,none⟩) l.length l.length):=cell_of hi.head 0
 have hs:aK 3 1 (.slice (some ⟨b,0,none⟩) l.length l.length) l.length (ints l) [(b, .cells (ints l).toArray 3 (0,0))]:=aK.made (by simp) (by unfold maxLen;omega)
 have hc:=xG _ l.length l w _ hi.tail hs (by omega)
 go_enter Tryz.func65,Tryz.ntmps65
 go_wp2_with(first|(go_at_call 114;refine Calls.mono hc ?_;rintro e w1 ⟨v1,h1,rfl,s1,u1⟩)|(go_at_call 63;refine Calls.mono (uB _ _ _ _ _ s1 (by omega)) ?_;rintro e w2 ⟨v2,rfl,s2,rfl⟩))
 go_ret
 exact⟨v2,h1,rfl,s2,u1⟩
end Go.Proofs.YtibemcgdmembeaaGreat
namespace Go.Proofs.YtibemcgdmembeaaGreat
open Go.RowKit
theorem L_(p:Nat)(y:aJ)(w:World)(h:Hp)(hi:In w h)(hy:gy p y h):
  Calls Tryz.prog 117 #[.pointer (some ⟨p,0,none⟩)] w fun e w'=>e= .returned (.bool y.oM)/\ ∃h',gy p y.flip h'/\aj h h' w w':=by
 obtain⟨c0,c1,c2,c3,c4,c5⟩:=gu hi hy
 have g5:=kT hi hy 5
 by_cases hok:y.ou<=0
 ·have e1:y.oM=true:=by simp[aJ.oM,hok]
  have e2:y.flip={y with now:= !y.now}:=by simp[aJ.flip,e1]
  rw[e1,e2]
  obtain⟨hh,hwf⟩:=hy
  obtain⟨arr,rfl⟩: ∃arr,h=[(p, .cells arr 125 (0,0))]:=⟨_,hh⟩
  have harr:arr=kH y:=by simpa using hh
  have hfin: ∀w1,aj [(p, .cells arr 125 (0,0))] [(p, .cells arr 125 (0,0))] w w1-> ∃h',gy p {y with now:= !y.now} h'/\aj [(p, .cells arr 125 (0,0))] h' w (w1.setCell ⟨p,5,none⟩ (.int .i64 (mW (!y.now)))):=by
   intro w1 u1
   refine⟨_,⟨?_,hwf⟩,aj.store' (l:=[]) u1 5 (.int .i64 (mW (!y.now)))⟩
   rw[harr]
   rfl
  have U0:=aj.refl hi
  rcases y with⟨f0,u0,f1,u1,words,now⟩
  simp only[mW]at*
  have k0:IntKind.i64.wrap 0=0:=by kernel_rfl
  have k1:IntKind.i64.wrap 1=1:=by kernel_rfl
  have HF:=Lib.hid hfin
  clear hfin hh harr hwf e1 e2
  cases now
  all_goals
   simp only[aJ.ou,if_true,if_false,Bool.false_eq_true,Bool.not_true,Bool.not_false]at*
   go_enter Tryz.func117,Tryz.ntmps117
   go_wp2
   refine fQ (by kernel_rfl) (by kernel_rfl) fun w1 hw1=> ?_
   subst hw1
   repeat still_step
   refine wpStill_nil ?_
   go_wp2
   go_ret
   exact⟨rfl,HF.out _ U0.drew'⟩
 ·have e1:y.oM=false:=by simp[aJ.oM,hok]
  have e2:y.flip=y:=by simp[aJ.flip,e1]
  rw[e1,e2]
  have hy0:=hy
  rcases y with⟨f0,u0,f1,u1,words,now⟩
  simp only[mW]at*
  have k0:IntKind.i64.wrap 0=0:=by kernel_rfl
  have k1:IntKind.i64.wrap 1=1:=by kernel_rfl
  clear e1 e2
  cases now
  all_goals
   simp only[aJ.ou,if_true,if_false,Bool.false_eq_true]at*
   go_enter Tryz.func117,Tryz.ntmps117
   go_wp2
   refine fQ (by kernel_rfl) (by kernel_rfl) fun w1 hw1=> ?_
   subst hw1
   repeat still_step
   refine wpStill_nil ?_
   go_wp2
   go_ret
   exact⟨rfl,h,hy0,aj.drew hi⟩
theorem I7(p:Nat)(y:aJ)(w:World)(h:Hp)(hi:In w h)(hy:gy p y h):
  Calls Tryz.prog 119 #[.pointer (some ⟨p,0,none⟩)] w fun e w'=>e= .returned (.tuple #[.int .i64 y.cf, .int .i64 y.of])/\aj h h w w':=by
 obtain⟨c0,c1,c2,c3,c4,c5⟩:=gu hi hy
 rcases y with⟨f0,u0,f1,u1,words,now⟩
 simp only[mW]at*
 have k0:IntKind.i64.wrap 0=0:=by kernel_rfl
 have k1:IntKind.i64.wrap 1=1:=by kernel_rfl
 cases now
 all_goals
  simp only[aJ.cf,aJ.of,if_true,if_false,Bool.false_eq_true]at*
  go_enter Tryz.func119,Tryz.ntmps119
  go_wp2
  refine fQ (by kernel_rfl) (by kernel_rfl) fun w1 hw1=> ?_
  subst hw1
  repeat still_step
  refine wpStill_nil ?_
  go_wp2
  go_ret2
  exact⟨rfl,aj.drew hi⟩
theorem Mc(p:Nat)(y:aJ)(w:World)(h:Hp)(hi:In w h)(hy:gy p y h):
  Calls Tryz.prog 170 #[.pointer (some ⟨p,0,none⟩)] w fun e w'=>e= .returned (.bool y.qH)/\ ∃h',gy p y.drop h'/\aj h h' w w':=by
 obtain⟨c0,c1,c2,c3,c4,c5⟩:=gu hi hy
 have g1:=kT hi hy 1
 have g3:=kT hi hy 3
 have hy0:=hy
 have U0:=aj.refl hi
 obtain⟨hh,k1,k2,k3,k4,k5,k6,k7,k8,k9⟩:=hy
 rcases y with⟨f0,u0,f1,u1,words,now⟩
 simp only at k1 k2 k3 k4 k5 k6 k7 k8 k9
 simp only[mW]at*
 have k0:IntKind.i64.wrap 0=0:=by kernel_rfl
 have k1:IntKind.i64.wrap 1=1:=by kernel_rfl
 cases now
 ·by_cases hz:u1=0
  ·have e1:(⟨f0,u0,f1,u1,words,false⟩:aJ).qH=false:=by simp[aJ.qH,aJ.ou,hz]
   have e2:(⟨f0,u0,f1,u1,words,false⟩:aJ).drop=⟨f0,u0,f1,u1,words,false⟩:=by simp[aJ.drop,hz]
   rw[e1,e2]
   have hq:(u1==0)=true:=by simpa using hz
   clear e1 e2 hz
   simp only[if_true,if_false,Bool.false_eq_true]at c5
   go_enter Tryz.func170,Tryz.ntmps170
   go_wp2
   refine fQ (by kernel_rfl) (by kernel_rfl) fun w1 hw1=> ?_
   subst hw1
   repeat still_step
   refine wpStill_nil ?_
   go_wp2
   go_ret
   exact⟨rfl,h,hy0,U0.drew'⟩
  ·have e1:(⟨f0,u0,f1,u1,words,false⟩:aJ).qH=true:=by simp[aJ.qH,aJ.ou,hz]
   have e2:(⟨f0,u0,f1,u1,words,false⟩:aJ).drop=⟨f0,u0,f1,0,words,false⟩:=by simp[aJ.drop]
   rw[e1,e2]
   have hq:(u1==0)=false:=by simpa using hz
   have hfin: ∀w1,aj h h w w1-> ∃h',gy p ⟨f0,u0,f1,0,words,false⟩ h'/\aj h h' w (w1.setCell ⟨p,3,none⟩ (.int .i64 0)):=by
    intro w1 u1
    subst hh
    exact⟨_,⟨rfl,by refine⟨?_, ?_, ?_, ?_, ?_, ?_, ?_, ?_, ?_⟩<;>(simp only;omega)⟩,aj.store' (l:=[]) u1 3 (.int .i64 0)⟩
   have HF:=Lib.hid hfin
   clear e1 e2 hz hfin
   simp only[if_true,if_false,Bool.false_eq_true]at c5
   go_enter Tryz.func170,Tryz.ntmps170
   go_wp2
   refine fQ (by kernel_rfl) (by kernel_rfl) fun w1 hw1=> ?_
   subst hw1
   repeat still_step
   refine wpStill_nil ?_
   go_wp2
   refine eP 10 (by kernel_rfl) (by kernel_rfl) fun w1 hw1=> ?_
   subst hw1
   simp only[List.take_succ_cons,List.take_zero,List.drop_succ_cons,List.drop_zero]
   repeat still_step
   refine wpStill_nil ?_
   go_wp2
   go_ret
   exact⟨rfl,HF.out _ U0.drew'.drew'⟩
 ·by_cases hz:u0=0
  ·have e1:(⟨f0,u0,f1,u1,words,true⟩:aJ).qH=false:=by simp[aJ.qH,aJ.ou,hz]
   have e2:(⟨f0,u0,f1,u1,words,true⟩:aJ).drop=⟨f0,u0,f1,u1,words,true⟩:=by simp[aJ.drop,hz]
   rw[e1,e2]
   have hq:(u0==0)=true:=by simpa using hz
   clear e1 e2 hz
   simp only[if_true,if_false,Bool.false_eq_true]at c5
   go_enter Tryz.func170,Tryz.ntmps170
   go_wp2
   refine fQ (by kernel_rfl) (by kernel_rfl) fun w1 hw1=> ?_
   subst hw1
   repeat still_step
   refine wpStill_nil ?_
   go_wp2
   go_ret
   exact⟨rfl,h,hy0,U0.drew'⟩
  ·have e1:(⟨f0,u0,f1,u1,words,true⟩:aJ).qH=true:=by simp[aJ.qH,aJ.ou,hz]
   have e2:(⟨f0,u0,f1,u1,words,true⟩:aJ).drop=⟨f0,0,f1,u1,words,true⟩:=by simp[aJ.drop]
   rw[e1,e2]
   have hq:(u0==0)=false:=by simpa using hz
   have hfin: ∀w1,aj h h w w1-> ∃h',gy p ⟨f0,0,f1,u1,words,true⟩ h'/\aj h h' w (w1.setCell ⟨p,1,none⟩ (.int .i64 0)):=by
    intro w1 u1
    subst hh
    exact⟨_,⟨rfl,by refine⟨?_, ?_, ?_, ?_, ?_, ?_, ?_, ?_, ?_⟩<;>(simp only;omega)⟩,aj.store' (l:=[]) u1 1 (.int .i64 0)⟩
   have HF:=Lib.hid hfin
   clear e1 e2 hz hfin
   simp only[if_true,if_false,Bool.false_eq_true]at c5
   go_enter Tryz.func170,Tryz.ntmps170
   go_wp2
   refine fQ (by kernel_rfl) (by kernel_rfl) fun w1 hw1=> ?_
   subst hw1
   repeat still_step
   refine wpStill_nil ?_
   go_wp2
   refine eP 10 (by kernel_rfl) (by kernel_rfl) fun w1 hw1=> ?_
   subst hw1
   simp only[List.take_succ_cons,List.take_zero,List.drop_succ_cons,List.drop_zero]
   repeat still_step
   refine wpStill_nil ?_
   go_wp2
   go_ret
   exact⟨rfl,HF.out _ U0.drew'.drew'⟩
def firstT:List Bool->Nat->Option Nat
 |[],_=>none
 |b::l,k=>if b then some k else firstT l (k+1)
def bz.first(s:bz):Option Nat:=firstT s.marks 0
def bz.KL(s:bz)(n:Nat):bz:={s with marks:=s.marks.set n false}
def yH(o:Option Nat):Int:=match o with|some n=>n|none=>0
theorem uC(l:List Bool)(k:Nat)(h:k<l.length):firstT (l.drop k) k=if l.getD k false then some k else firstT (l.drop (k+1)) (k+1):=by
 rw[List.drop_eq_getElem_cons h]
 simp[firstT,List.getD,h]
theorem qZ: ∀(l:List Bool) (k n:Nat),firstT l k=some n->k<=n/\n<k+l.length
 |[],_,_,h=>by cases h
 |b::l,k,n,h=>by
  unfold firstT at h
  split at h
  ·cases h
   simp
  ·have:=qZ l (k+1) n h
   simp
   omega
theorem AB(p:Nat)(s:bz)(w:World)(h:Hp)(hi:In w h)(hg:oq p s h):
  Calls Tryz.prog 164 #[.pointer (some ⟨p,0,none⟩), .int .i64 0] w fun e w'=>e= .returned (.tuple #[.int .i64 (yH s.first), .bool s.first.isSome])/\w'=w:=by
 obtain⟨b,rfl,hwf⟩:=hg
 have hle:=xE hwf
 have e3:w.cell? ⟨p,3,none⟩=some (.slice (some ⟨b,0,none⟩) s.marks.length s.marks.length):=cell_of hi.head 3
 have hc: ∀k,k<s.marks.length->w.cell? ⟨b,k,none⟩=some (.bool (s.marks.getD k false)):=by
  intro k hk
  rw[cell_of hi.tail.head k]
  simp[List.getD,hk]
 have HC:=Lib.hid hc
 obtain⟨R,hR⟩: ∃R,R=s.first:=⟨_,rfl⟩
 rw[<-hR]
 have HR:=Lib.hid hR
 clear hc hwf hR
 go_enter Tryz.func164,Tryz.ntmps164
 go_wp2
 go_loop [6] (fun i=> ∃k:Nat,k<=s.marks.length/\i= .int .i64 k/\Hid (R=firstT (s.marks.drop k) k)) (fun i=>s.marks.length-(intOf i).toNat)
 case atStart=>exact⟨0,by omega,rfl,HR⟩
 case round=>
  obtain⟨k,hk,rfl,HK⟩:=hrel
  by_cases hlt:k<s.marks.length
  ·have h1:=HC.out k hlt
   have h2:=uC s.marks k hlt
   cases hb:s.marks.getD k false
   ·rw[hb]at h1 h2
    have H2:=Lib.hid (HK.out.trans h2)
    clear h2 hb HK
    go_wp2
    go_round
    case rel=>exact⟨k+1,by omega,by go_num,Lib.hid H2.out⟩
    case measure=>simp[intOf];omega
   ·rw[hb]at h1 h2
    have H2:Hid (R=some k):=Lib.hid (HK.out.trans h2)
    clear h2 hb HK
    go_wp2
    go_ret2
    rw[H2.out]
    exact⟨rfl,rfl⟩
  ·have H2:Hid (R=none):=Lib.hid (HK.out.trans (by rw[List.drop_of_length_le (by omega)];rfl))
   clear HK
   go_wp2
   go_ret2
   rw[H2.out]
   exact⟨rfl,rfl⟩
end Go.Proofs.YtibemcgdmembeaaGreat
namespace Go.Proofs.YtibemcgdmembeaaGreat
open Go.RowKit
def iR(ws:List Int):Array Value:=(ws.map (Value.int .u64)).toArray
def C_(x:Int):Prop:=0<=x/\x<18446744073709551616
def dZ(p:Nat)(ws:List Int)(h:Hp):Prop:=
 ∃(b:Nat) (n:Int),h=[(p, .cells #[.slice (some ⟨b,0,none⟩) ws.length ws.length, .int .i64 n] 156 (0,0)),(b, .cells (iR ws) 33 (0,0))]/\ws.length<=1048576/\ ∀x∈ws,C_ x
theorem vk(pa ba n:Nat)(w:World)
  (h0:w.cell? ⟨pa,0,none⟩=some (.slice (some ⟨ba,0,none⟩) n n)):
  Calls Tryz.prog 162 #[.pointer (some ⟨pa,0,none⟩)] w fun e w'=>e= .returned (.int .i64 n)/\w=w':=by
 go_enter Tryz.func162,Tryz.ntmps162
 go_wp2
 go_ret
 exact⟨rfl,rfl⟩
def kU(n:Nat)(i k:Int):Bool:=decide (0<=i/\0<=k/\i<=n/\k<=n-i)
theorem kV(pa ba n:Nat)(i k:Int)(w:World)(hn:n<=1048576)
  (h0:w.cell? ⟨pa,0,none⟩=some (.slice (some ⟨ba,0,none⟩) n n)):
  Calls Tryz.prog 145 #[.pointer (some ⟨pa,0,none⟩), .int .i64 i, .int .i64 k] w fun e w'=>e= .returned (.bool (kU n i k))/\w=w':=by
 unfold kU
 by_cases h1:0<=i
 ·by_cases h2:0<=k
  ·by_cases h3:i<=n
   ·by_cases h4:k<=n-i
    all_goals
     go_enter Tryz.func145,Tryz.ntmps145
     go_wp2_with(go_at_call 162;refine(vk _ _ _ _ h0).mono ?_;rintro e w' ⟨rfl,rfl⟩)
     go_ret
     simp[*]<;>omega
   ·go_enter Tryz.func145,Tryz.ntmps145
    go_wp2_with(go_at_call 162;refine(vk _ _ _ _ h0).mono ?_;rintro e w' ⟨rfl,rfl⟩)
    go_ret
    simp[*]<;>omega
  ·go_enter Tryz.func145,Tryz.ntmps145
   go_wp2_with(go_at_call 162;refine(vk _ _ _ _ h0).mono ?_;rintro e w' ⟨rfl,rfl⟩)
   go_ret
   simp[*]<;>omega
 ·go_enter Tryz.func145,Tryz.ntmps145
  go_wp2_with(go_at_call 162;refine(vk _ _ _ _ h0).mono ?_;rintro e w' ⟨rfl,rfl⟩)
  go_ret
  simp[*]<;>omega
theorem AL{w:World}{b:Nat}{ws:List Int}{T:TypeId}(h:w.heap[b]? =some (.cells (iR ws) T (0,0)))(i:Nat)(hi:i<ws.length):
  w.cell? ⟨b,i,none⟩=some (.int .u64 (ws.getD i 0)):=by
 rw[cell_of h]
 simp[iR,List.getD,hi]
def rd(ws:List Int)(i:Int):Int:=if 0<=i then ws.getD i.toNat 0 else 0
def wr(ws:List Int)(i:Int)(v:Int):List Int:=if 0<=i then ws.set i.toNat v else ws
def nC(n:Nat)(i k:Int):Int:=if kU n i k then 0 else 2
def oU(ws:List Int)(i:Int):Int:=if kU ws.length i 1 then rd ws i else 0
def iQ(ws:List Int)(i v:Int):List Int:=if kU ws.length i 1 then wr ws i v else ws
theorem I8(ws:List Int)(k:Nat)(v:Int):(iR ws).setIfInBounds k (.int .u64 v)=iR (ws.set k v):=by
 simp[iR,List.map_set]
theorem Rj{ws:List Int}{k:Nat}{v:Int}(h: ∀x∈ws,C_ x)(hv:C_ v): ∀x∈ws.set k v,C_ x:=by
 intro x hx
 rcases List.mem_or_eq_of_mem_set hx with h1|h1
 ·exact h x h1
 ·exact h1▸hv
theorem EP{n:Nat}{i:Int}(h:kU n i 1=true): ∃k:Nat,i=k/\k<n:=by
 unfold kU at h
 simp at h
 exact⟨i.toNat,by omega,by omega⟩
theorem wJ(pa:Nat)(ws:List Int)(i:Int)(w:World)(h:Hp)(hi:In w h)(ha:dZ pa ws h):
  Calls Tryz.prog 112 #[.pointer (some ⟨pa,0,none⟩), .int .i64 i] w fun e w'=>
   e= .returned (.tuple #[.int .u64 (oU ws i), .int .i64 (nC ws.length i 1)])/\ ∃h',dZ pa ws h'/\aj h h' w w':=by
 obtain⟨b,n,rfl,hl,hu⟩:=ha
 have e0:w.cell? ⟨pa,0,none⟩=some (.slice (some ⟨b,0,none⟩) ws.length ws.length):=cell_of hi.head 0
 have e1:w.cell? ⟨pa,1,none⟩=some (.int .i64 n):=cell_of hi.head 1
 have f1:w.frozen? ⟨pa,1,none⟩=false:=aO hi.head 1
 by_cases hh:kU ws.length i 1=true
 ·obtain⟨k,rfl,hk⟩:=EP hh
  have e2:=AL hi.tail.head k hk
  have hne:pa≠b:=by have:=hi.1;simp at this;exact this
  have hne':b≠pa:=hne.symm
  go_enter Tryz.func112,Tryz.ntmps112
  go_wp2_with(go_at_call 145;refine(kV _ _ _ _ _ _ hl e0).mono ?_;rintro e w' ⟨rfl,rfl⟩)
  go_ret2
  exact⟨by simp[oU,nC,hh,rd,List.getD,hk],_,⟨b,wrap64 (n+1),rfl,hl,hu⟩,aj.store (l:=[]) (off:=1) (v:= .int .i64 (wrap64 (n+1))) hi⟩
 ·have hh':kU ws.length i 1=false:=by simpa using hh
  go_enter Tryz.func112,Tryz.ntmps112
  go_wp2_with(go_at_call 145;refine(kV _ _ _ _ _ _ hl e0).mono ?_;rintro e w' ⟨rfl,rfl⟩)
  go_ret2
  exact⟨by simp[oU,nC,hh'],_,⟨b,n,rfl,hl,hu⟩,aj.refl hi⟩
theorem uD(pa:Nat)(ws:List Int)(i v:Int)(w:World)(h:Hp)(hi:In w h)(ha:dZ pa ws h)(hv:C_ v):
  Calls Tryz.prog 142 #[.pointer (some ⟨pa,0,none⟩), .int .i64 i, .int .u64 v] w fun e w'=>
   e= .returned (.int .i64 (nC ws.length i 1))/\ ∃h',dZ pa (iQ ws i v) h'/\aj h h' w w':=by
 obtain⟨b,n,rfl,hl,hu⟩:=ha
 have e0:w.cell? ⟨pa,0,none⟩=some (.slice (some ⟨b,0,none⟩) ws.length ws.length):=cell_of hi.head 0
 have e1:w.cell? ⟨pa,1,none⟩=some (.int .i64 n):=cell_of hi.head 1
 have f1:w.frozen? ⟨pa,1,none⟩=false:=aO hi.head 1
 by_cases hh:kU ws.length i 1=true
 ·obtain⟨k,rfl,hk⟩:=EP hh
  have e2:=AL hi.tail.head k hk
  have f2:w.frozen? ⟨b,k,none⟩=false:=aO hi.tail.head k
  have hne:pa≠b:=by have:=hi.1;simp at this;exact this
  have hne':b≠pa:=hne.symm
  go_enter Tryz.func142,Tryz.ntmps142
  go_wp2_with(go_at_call 145;refine(kV _ _ _ _ _ _ hl e0).mono ?_;rintro e w' ⟨rfl,rfl⟩)
  go_ret
  refine⟨by simp[nC,hh],_,⟨b,wrap64 (n+1), ?_, ?_, ?_⟩,(aj.store' (l:=[(pa,_)]) (aj.store (l:=[]) (off:=1) (v:= .int .i64 (wrap64 (n+1))) hi) k (.int .u64 v))⟩
  ·simp[I8,wr,iQ,hh]
  ·simp[wr,iQ,hh];exact hl
  ·simp[wr,iQ,hh];exact Rj hu hv
 ·have hh':kU ws.length i 1=false:=by simpa using hh
  go_enter Tryz.func142,Tryz.ntmps142
  go_wp2_with(go_at_call 145;refine(kV _ _ _ _ _ _ hl e0).mono ?_;rintro e w' ⟨rfl,rfl⟩)
  go_ret
  exact⟨by simp[nC,hh'],_,⟨b,n,by simp[iQ,hh'],by simpa[iQ,hh']using hl,by simpa[iQ,hh']using hu⟩,aj.refl hi⟩
theorem aj.row{w:World}{l r:Hp}{b:Nat}{arr ER:Array Value}{T:TypeId}{fr:Nat×Nat}(hi:In w (l++(b, .cells arr T fr)::r)):
  aj (l++(b, .cells arr T fr)::r) (l++(b, .cells ER T fr)::r) w (w.setRow b ER)where
 au:=by
  have hn:=hi.1
  have hne: ∀x∈l++r,x.1≠b:=by
   intro x hx e
   simp only[List.map_append,List.map_cons,List.nodup_append,List.nodup_cons]at hn
   rcases List.mem_append.1 hx with hx|hx
   ·exact hn.2.2 x.1 (List.mem_map_of_mem hx) b (List.mem_cons_self ..) e
   ·exact hn.2.1.1 (e▸List.mem_map_of_mem hx)
  refine⟨by simpa using hn, ?_⟩
  intro x hx
  rcases List.mem_append.1 hx with hx|hx
  ·rw[setRow_other w b x.1 ER (hne x (List.mem_append_left _ hx))]
   exact hi.2 x (List.mem_append_left _ hx)
  ·rcases List.mem_cons.1 hx with rfl|hx
   ·exact setRow_heap w b arr ER T fr (hi.2 (b, .cells arr T fr) (List.mem_append_right _ (List.mem_cons_self ..)))
   ·rw[setRow_other w b x.1 ER (hne x (List.mem_append_right _ hx))]
    exact hi.2 x (List.mem_append_right _ (List.mem_cons_of_mem _ hx))
 os:=rfl
 tape:=rfl
 output:=rfl
 size:=by simp[World.setRow]
 frame:=fun k hk hn=>setRow_other w b k ER (by intro e;subst e;exact hn (by simp))
 fresh:=fun k hk=> .inl (by simpa using hk)
theorem aj.row'{w0 w:World}{h l r:Hp}{b:Nat}{arr:Array Value}{T:TypeId}{fr:Nat×Nat}(a:aj h (l++(b, .cells arr T fr)::r) w0 w)(ER:Array Value):
  aj h (l++(b, .cells ER T fr)::r) w0 (w.setRow b ER):=a.trans (aj.row a.au)
def lay(ws:List Int)(i:Nat)(xs:List Int):List Int:=ws.take i++xs++ws.drop (i+xs.length)
def mX(ws:List Int)(i:Int)(n:Nat):List Int:=if kU ws.length i n then lay ws i.toNat (List.replicate n 0)else ws
theorem DX(ws:List Int)(i:Nat)(xs:List Int):
  ((iR ws).toList.take i++xs.map (Value.int .u64)++(iR ws).toList.drop (i+(xs.map (Value.int .u64)).length)).toArray=iR (lay ws i xs):=by
 simp[iR,lay,List.map_take,List.map_drop]
theorem KN{ws:List Int}{i:Nat}{xs:List Int}(h: ∀x∈ws,C_ x)(hx: ∀x∈xs,C_ x): ∀x∈lay ws i xs,C_ x:=by
 intro x hm
 simp only[lay,List.mem_append]at hm
 rcases hm with(hm|hm)|hm
 ·exact h x (List.mem_of_mem_take hm)
 ·exact hx x hm
 ·exact h x (List.mem_of_mem_drop hm)
theorem pM(ws:List Int)(i:Nat)(xs:List Int)(h:i+xs.length<=ws.length):(lay ws i xs).length=ws.length:=by
 simp[lay];omega
theorem Md(w:World)(T ty:TypeId)(b o n c:Nat)(ws:List Int)(hu:Tryz.prog.underlying T=some (.slice 33))
  (hg:w.heap[b]? =some (.cells (iR ws) 33 (0,0)))(hn:0<n)(hfit:o+n<=ws.length):
  (Builtin.clear_ #[T] ty #[.slice (some ⟨b,o,none⟩) n c]).run Tryz.prog w= .ok (.tuple #[]) (w.setRow b (iR (lay ws o (List.replicate n 0)))):=by
 have hst:=run_storeCells_at Tryz.prog b o 33 (List.replicate n (Value.int .u64 0)) 0 (iR ws) w hg (by simp[iR];omega) (by intro v hv;simp at hv;rw[hv.2];rfl)
 have hz:(zeroValue 33).run Tryz.prog w= .ok (.int .u64 0) w:=by kernel_rfl
 have e:(Builtin.zeroCells #[Value.int .u64 0] n).toList=List.replicate n (Value.int .u64 0):=by
  simp only[Builtin.zeroCells,Array.toList_map,Array.toList_range]
  apply List.ext_getElem (by simp)
  intro i h1 h2
  have:i % 1=0:=by omega
  simp[this]
 obtain⟨m,rfl⟩: ∃m,n=m+1:=⟨n-1,by omega⟩
 have er:List.replicate (m+1) (Value.int .u64 0)=(List.replicate (m+1) (0:Int)).map (Value.int .u64):=by simp
 have hst':(storeCells ⟨b,o,none⟩ (List.replicate (m+1) (Value.int .u64 0))).run Tryz.prog w= .ok () (w.setRow b (iR (lay ws o (List.replicate (m+1) 0)))):=by
  rw[hst,Nat.add_zero,er,DX]
 simp[Builtin.clear_,run_underlying hu,hz,e,hst',Value.cells]
theorem I9(pa:Nat)(ws:List Int)(i:Int)(n:Nat)(w:World)(h:Hp)(hi:In w h)(ha:dZ pa ws h)(hn:0<n):
  Calls Tryz.prog 128 #[.pointer (some ⟨pa,0,none⟩), .int .i64 i, .int .i64 n] w fun e w'=>
   e= .returned (.int .i64 (nC ws.length i n))/\ ∃h',dZ pa (mX ws i n) h'/\aj h h' w w':=by
 obtain⟨b,c,rfl,hl,hu⟩:=ha
 have e0:w.cell? ⟨pa,0,none⟩=some (.slice (some ⟨b,0,none⟩) ws.length ws.length):=cell_of hi.head 0
 have e1:w.cell? ⟨pa,1,none⟩=some (.int .i64 c):=cell_of hi.head 1
 have f1:w.frozen? ⟨pa,1,none⟩=false:=aO hi.head 1
 by_cases hh:kU ws.length i n=true
 ·have hb:=hh
  unfold kU at hb
  simp at hb
  obtain⟨k,rfl⟩: ∃k:Nat,i=k:=⟨i.toNat,by omega⟩
  have hk:k+n<=ws.length:=by omega
  have hlt:k<ws.length:=by omega
  clear hb
  have hne:pa≠b:=by have:=hi.1;simp at this;exact this
  have hne':b≠pa:=hne.symm
  have hu1:=aj.store (l:=[]) (off:=1) (v:= .int .i64 (wrap64 (c+n))) hi
  have hcl:=fun T ty c' hT=>Md _ T ty b k n c' ws hT (aj.au hu1).tail.head hn hk
  have VY:=hcl 77 0 (ws.length-k) Tryz.underlying77
  clear hcl
  go_enter Tryz.func128,Tryz.ntmps128
  go_wp2_with(go_at_call 145;refine(kV _ _ _ _ _ _ hl e0).mono ?_;rintro e w' ⟨rfl,rfl⟩)
  go_ret
  have hz:mX ws k n=lay ws k (List.replicate n 0):=by simp[mX,hh]
  have hll:=pM ws k (List.replicate n 0) (by simpa using hk)
  refine⟨by simp[nC,hh],_,⟨b,wrap64 (c+n), ?_, ?_, ?_⟩,aj.row' (l:=[(pa,_)]) hu1 (iR (lay ws k (List.replicate n 0)))⟩
  ·rw[hz,hll];rfl
  ·rw[hz,hll];exact hl
  ·rw[hz];exact KN hu (by intro x hx;simp at hx;rw[hx.2];exact⟨by decide,by decide⟩)
 ·have hh':kU ws.length i n=false:=by simpa using hh
  have hz:mX ws i n=ws:=by simp[mX,hh']
  rw[hz]
  go_enter Tryz.func128,Tryz.ntmps128
  go_wp2_with(go_at_call 145;refine(kV _ _ _ _ _ _ hl e0).mono ?_;rintro e w' ⟨rfl,rfl⟩)
  go_ret
  exact⟨by simp[nC,hh'],_,⟨b,c,rfl,hl,hu⟩,aj.refl hi⟩
def seg(ws:List Int)(i n:Nat):List Int:=(ws.drop i).take n
def lZ(ws:List Int)(i j:Int)(n:Nat):Bool:=kU ws.length i n&&kU ws.length j n
def mF(ws:List Int)(i j:Int)(n:Nat):List Int:=if lZ ws i j n then lay ws j.toNat (seg ws i.toNat n)else ws
def nG(ws:List Int)(i j:Int)(n:Nat):Int:=if lZ ws i j n then 0 else 2
theorem Rk{ws:List Int}{i n:Nat}(h: ∀x∈ws,C_ x): ∀x∈seg ws i n,C_ x:=fun x hx=>h x (List.mem_of_mem_drop (List.mem_of_mem_take hx))
theorem nM(ws:List Int)(i n:Nat)(h:i+n<=ws.length):(seg ws i n).length=n:=by simp[seg];omega
theorem O3(w:World)(T ty:TypeId)(b o c s sc n:Nat)(ws:List Int)(hu:Tryz.prog.underlying T=some (.slice 33))
  (hg:w.heap[b]? =some (.cells (iR ws) 33 (0,0)))(hfit:o+n<=ws.length)(hs:s+n<=ws.length):
  (Builtin.copy_ #[T,T] ty #[.slice (some ⟨b,o,none⟩) n c, .slice (some ⟨b,s,none⟩) n sc]).run Tryz.prog w= .ok (goInt n) (w.setRow b (iR (lay ws o (seg ws s n)))):=by
 have hlen:=nM ws s n hs
 have h:=run_copy_row Tryz.prog w T T ty 33 b o n c ⟨b,s,none⟩ n sc (iR ws) 33 ((seg ws s n).map (Value.int .u64)) hu (by kernel_rfl) hg (by simp[hlen])
  (by
   intro j v hj
   have hj':=hj
   simp only[List.getElem?_map,Option.map_eq_some_iff]at hj'
   obtain⟨x,hx,rfl⟩:=hj'
   have hjn:j<n:=by have:=(List.getElem?_eq_some_iff.1 hx).1;omega
   have hadd:(⟨b,s,none⟩:Addr).add j=⟨b,s+j,none⟩:=by unfold Addr.add;split<;>simp_all
   rw[hadd,cell_of hg]
   simp only[seg,List.getElem?_take,List.getElem?_drop]at hx
   rw[if_pos hjn]at hx
   simp[iR,hx])
  (by simp[iR,hlen];exact hfit) (by intro v hv;simp at hv;obtain⟨x,_,rfl⟩:=hv;rfl)
 rw[DX]at h
 simpa[hlen]using h
theorem I_(pa:Nat)(ws:List Int)(i j:Int)(n:Nat)(w:World)(h:Hp)(hi:In w h)(ha:dZ pa ws h)(hn:0<n):
  Calls Tryz.prog 158 #[.pointer (some ⟨pa,0,none⟩), .int .i64 i, .int .i64 j, .int .i64 n] w fun e w'=>
   e= .returned (.int .i64 (nG ws i j n))/\ ∃h',dZ pa (mF ws i j n) h'/\aj h h' w w':=by
 obtain⟨b,c,rfl,hl,hu⟩:=ha
 have e0:w.cell? ⟨pa,0,none⟩=some (.slice (some ⟨b,0,none⟩) ws.length ws.length):=cell_of hi.head 0
 have e1:w.cell? ⟨pa,1,none⟩=some (.int .i64 c):=cell_of hi.head 1
 have f1:w.frozen? ⟨pa,1,none⟩=false:=aO hi.head 1
 by_cases hh:kU ws.length i n=true
 ·by_cases hh2:kU ws.length j n=true
  ·have hb:=hh
   have hb2:=hh2
   unfold kU at hb hb2
   simp at hb hb2
   obtain⟨k,rfl⟩: ∃k:Nat,i=k:=⟨i.toNat,by omega⟩
   obtain⟨m,rfl⟩: ∃k:Nat,j=k:=⟨j.toNat,by omega⟩
   have hk:k+n<=ws.length:=by omega
   have hlt:k<ws.length:=by omega
   have hk2:m+n<=ws.length:=by omega
   have hlt2:m<ws.length:=by omega
   clear hb hb2
   have hne:pa≠b:=by have:=hi.1;simp at this;exact this
   have hne':b≠pa:=hne.symm
   have hu1:=aj.drew' (aj.store (l:=[]) (off:=1) (v:= .int .i64 (wrap64 (c+2*n))) hi)
   have VY:=O3 _ 77 3 b m (ws.length-m) k (ws.length-k) n ws Tryz.underlying77 (aj.au hu1).tail.head hk2 hk
   go_enter Tryz.func158,Tryz.ntmps158
   go_wp2_with(go_at_call 145;refine(kV _ _ _ _ _ _ hl e0).mono ?_;rintro e w' ⟨rfl,rfl⟩)
   have w1:IntKind.i64.wrap ((m:Int)+n)=(m:Int)+n:=IntWalk.i64_in _ (by omega)
   have w2:IntKind.i64.wrap ((k:Int)+n)=(k:Int)+n:=IntWalk.i64_in _ (by omega)
   have q1:(m:Int)+n<=ws.length:=by omega
   have q2: ¬ws.length=m:=by omega
   have q3:(k:Int)+n<=ws.length:=by omega
   have q4: ¬ws.length=k:=by omega
   have p1:0<=(m:Int)+n:=by omega
   have p2:0<=(k:Int)+n:=by omega
   have t1:((m:Int)+n).toNat=m+n:=by omega
   have t2:((k:Int)+n).toNat=k+n:=by omega
   refine eP 18 (by kernel_rfl) (by kernel_rfl) fun w1 hw1=> ?_
   simp only[List.take_succ_cons,List.take_zero,List.drop_succ_cons,List.drop_zero]
   have e2:w1.cell? ⟨pa,0,none⟩=some (.slice (some ⟨b,0,none⟩) ws.length ws.length):=by subst hw1;exact cell_of hu1.au.head 0
   rw[<-hw1]at VY hu1
   clear hw1
   repeat still_step
   refine wpStill_nil ?_
   go_wp2
   go_ret
   have hz:mF ws k m n=lay ws m (seg ws k n):=by simp[mF,lZ,hh,hh2]
   have hll:=pM ws m (seg ws k n) (by rw[nM ws k n hk];exact hk2)
   refine⟨by simp[nG,lZ,hh,hh2],_,⟨b,wrap64 (c+2*n), ?_, ?_, ?_⟩,aj.row' (l:=[(pa,_)]) hu1 (iR (lay ws m (seg ws k n)))⟩
   ·rw[hz,hll];rfl
   ·rw[hz,hll];exact hl
   ·rw[hz];exact KN hu (Rk hu)
  ·have hh':kU ws.length j n=false:=by simpa using hh2
   have hz:mF ws i j n=ws:=by simp[mF,lZ,hh']
   have hz2:nG ws i j n=2:=by simp[nG,lZ,hh']
   rw[hz,hz2]
   go_enter Tryz.func158,Tryz.ntmps158
   go_wp2_with(go_at_call 145;refine(kV _ _ _ _ _ _ hl e0).mono ?_;rintro e w' ⟨rfl,rfl⟩)
   go_ret
   exact⟨rfl,_,⟨b,c,rfl,hl,hu⟩,aj.refl hi⟩
 ·have hh':kU ws.length i n=false:=by simpa using hh
  have hz:mF ws i j n=ws:=by simp[mF,lZ,hh']
  have hz2:nG ws i j n=2:=by simp[nG,lZ,hh']
  rw[hz,hz2]
  go_enter Tryz.func158,Tryz.ntmps158
  go_wp2_with(go_at_call 145;refine(kV _ _ _ _ _ _ hl e0).mono ?_;rintro e w' ⟨rfl,rfl⟩)
  go_ret
  exact⟨rfl,_,⟨b,c,rfl,hl,hu⟩,aj.refl hi⟩
theorem Tryz.KO:(Tryz.prog.info? 33).map (fun i=>(i.zero,i.size,i.bytes))=some (some (.int .u64 0),1,8):=by kernel_rfl
theorem Me(n:Nat)(w:World)(h0:0<n)(h1:n<=1048576):
  Calls Tryz.prog 90 #[.int .i64 n] w fun e w'=> ∃p h',e= .returned (.pointer (some ⟨p,0,none⟩))/\dZ p (List.replicate n 0) h'/\aj [] h' w w':=by
 have hm:=vg (P:=Tryz.prog) w 77 33 (.int .u64 0) 8 Tryz.underlying77 Tryz.KO rfl n (by omega) (by decide)
 have hU:=(aj.alloc (In.nil w) (.cells (List.replicate n (Value.int .u64 0)).toArray 33 (0,0))).alloc' (.cells #[.slice (some ⟨w.heap.size,0,none⟩) n n, .int .i64 0] 156 (0,0))
 have hH:dZ (w.heap.size+1) (List.replicate n 0) [(w.heap.size+1, .cells #[.slice (some ⟨w.heap.size,0,none⟩) n n, .int .i64 0] 156 (0,0)),(w.heap.size, .cells (List.replicate n (Value.int .u64 0)).toArray 33 (0,0))]:=
  ⟨w.heap.size,0,by simp[iR],by simpa using h1,by intro x hx;simp at hx;rw[hx.2];exact⟨by decide,by decide⟩⟩
 have h0':(0:Int)<n:=by omega
 have h1':(n:Int)<=1048576:=by omega
 generalize hR:List.replicate n (Value.int .u64 0)=R at*
 clear hR
 go_enter Tryz.func90,Tryz.ntmps90
 go_wp2
 go_ret
 exact⟨_,_,rfl,hH,by simpa using hU⟩
end Go.Proofs.YtibemcgdmembeaaGreat
