/- What each call of package head comes to. No condition. -/
import Derived.Test.YtibemcgdmembeaaGreatRows
import Derived.Test.YtibemcgdmembeaaGreatZA
import Derived.Deep.RegionHeld3
set_option linter.unusedVariables false
set_option linter.unusedSimpArgs false
set_option maxRecDepth 100000
set_option maxHeartbeats 4000000
namespace Go.Proofs.YtibemcgdmembeaaGreat
open Go.RowKit
structure gX where
 handles:Int
 aU:Int
 pages:Int
 page:Int
 card:Int
 buffer:Int
 stack:Int
 d_:Int
 largest:Int
 minor:Int
 major:Int
 dH:Int
 dm:Int
def aN(c:gX):Array Value:=#[.int .i64 c.handles, .int .i64 c.aU, .int .i64 c.pages, .int .i64 c.page, .int .i64 c.card, .int .i64 c.buffer, .int .i64 c.stack, .int .i64 c.d_, .int .i64 c.largest, .int .i64 c.minor, .int .i64 c.major, .int .i64 c.dH, .int .i64 c.dm]
def within(n a b:Int):Bool:=decide (a<=n/\n<=b)
def gX.sizes(c:gX):Bool:=within c.handles 1 64&&within c.aU 8 4096&&within c.pages 0 64&&within c.page 16 256
def gX.rows(c:gX):Bool:=within c.buffer 0 256&&within c.stack 1 256&&within c.d_ 1 7&&within c.largest 0 64
def gX.KU(c:gX):Bool:=within c.minor 0 64&&within c.major 0 64&&within c.dH 0 c.aU&&within c.dm 0 c.pages
def gX.ok(c:gX):Bool:=c.sizes&&within c.card 1 c.page&&decide (c.page % c.card=0)&&c.rows&&c.KU&&decide (c.largest+2<=c.aU)
def gX.err(c:gX):Int:=if c.ok then 0 else 1
theorem within_iff{n a b:Int}:within n a b=true↔a<=n/\n<=b:=by simp[within]
theorem bD(n a b:Int)(w:World):
  Calls Tryz.prog 46 #[.int .i64 n, .int .i64 a, .int .i64 b] w fun e w'=>e= .returned (.bool (within n a b))/\w'=w:=by
 by_cases h1:a<=n
 ·by_cases h2:n<=b
  all_goals
   unfold within
   go_enter Tryz.func46,Tryz.ntmps46
   go_wp2
   go_ret
   exact⟨by simp[h1,h2]<;>omega,rfl⟩
 ·have hw:within n a b=false:=by simp[within];omega
  rw[hw]
  clear hw
  go_enter Tryz.func46,Tryz.ntmps46
  go_wp2
  go_ret
  exact⟨by simp[h1]<;>omega,rfl⟩
theorem QJ(b0 b1 b2 b3:Bool)(p:Nat)(w:World)
  (c0:w.cell? ⟨p,0,none⟩=some (.bool b0))(c1:w.cell? ⟨p,1,none⟩=some (.bool b1))(c2:w.cell? ⟨p,2,none⟩=some (.bool b2))(c3:w.cell? ⟨p,3,none⟩=some (.bool b3)):
  Calls Tryz.prog 45 #[.slice (some ⟨p,0,none⟩) 4 4] w fun e w'=>e= .returned (.bool (b0&&b1&&b2&&b3))/\w'=w:=by
 obtain⟨f,hf⟩: ∃f:Nat->Bool,f=fun i=>[b0,b1,b2,b3].getD i true:=⟨_,rfl⟩
 have hc: ∀k,k<4->w.cell? ⟨p,k,none⟩=some (.bool (f k)):=by
  intro k hk
  subst hf
  match k,hk with
  |0,_=>exact c0
  |1,_=>exact c1
  |2,_=>exact c2
  |3,_=>exact c3
 have hres:(b0&&b1&&b2&&b3)=(f 0&&f 1&&f 2&&f 3):=by subst hf;rfl
 rw[hres]
 clear hres hf c0 c1 c2 c3
 have H:=Lib.hid hc
 clear hc
 go_enter Tryz.func45,Tryz.ntmps45
 go_wp2
 go_loop [7] (fun i=> ∃k:Nat,k<=4/\i= .int .i64 k/\ ∀j,j<k->f j=true) (fun i=>4-(intOf i).toNat)
 case atStart=>exact⟨0,by omega,rfl,by intro j hj;omega⟩
 case round=>
  obtain⟨k,hk,rfl,hall⟩:=hrel
  have HA:=Lib.hid hall
  clear hall
  by_cases hlt:k<4
  ·have e:=H.out k hlt
   cases hfk:f k
   ·rw[hfk]at e
    have hfin:(f 0&&f 1&&f 2&&f 3)=false:=by
     match k,hlt,hfk with
     |0,_,h=>simp[h]
     |1,_,h=>simp[h]
     |2,_,h=>simp[h]
     |3,_,h=>simp[h]
    go_wp2
    go_ret
    exact⟨rfl,rfl⟩
   ·rw[hfk]at e
    go_wp2
    go_round
    case rel=>exact⟨k+1,by omega,by go_num,by intro j hj;rcases Nat.lt_succ_iff_lt_or_eq.1 hj with h|h;exact HA.out j h;rw[h];exact hfk⟩
    case measure=>simp[intOf];omega
  ·obtain rfl:k=4:=by omega
   have h0:=HA.out 0 (by omega)
   have h1:=HA.out 1 (by omega)
   have h2:=HA.out 2 (by omega)
   have h3:=HA.out 3 (by omega)
   go_wp2
   go_ret
   exact⟨by simp,rfl⟩
def gX.jv(c:gX):Int:=1+2*c.aU
def gX.words(c:gX):Int:=c.jv+c.pages*c.page
def gX.Small(c:gX):Prop:=0<=c.aU/\c.aU<=4096/\0<=c.pages/\c.pages<=64/\0<=c.page/\c.page<=256
theorem gX.pU{c:gX}(h:c.Small):0<=c.pages*c.page/\c.pages*c.page<=16384:=by
 obtain⟨_,_,h3,h4,h5,h6⟩:=h
 exact⟨Int.mul_nonneg h3 h5,by have:=Int.mul_le_mul h4 h6 h5 (by omega:(0:Int)<=64);omega⟩
theorem zA(c:gX)(w:World)(hs:c.Small):
  Calls Tryz.prog 89 #[.agg (aN c)] w fun e w'=>e= .returned (.int .i64 c.jv)/\aj [] [] w w':=by
 have hU:=aj.skip (In.nil w) (.cells (aN c) 23 (0,0))
 obtain⟨h1,h2,h3,h4,h5,h6⟩:=hs
 rcases c with⟨handles,aU,pages,page,card,buffer,stack,d_,largest,minor,major,dH,dm⟩
 simp only[aN,gX.jv]at*
 go_enter Tryz.func89,Tryz.ntmps89
 go_wp2
 go_ret
 exact⟨rfl,hU⟩
def QK(w:World)(b:Nat)(c:gX):Prop:=w.cell? ⟨b,0,none⟩=some (.int .i64 c.handles)/\w.cell? ⟨b,1,none⟩=some (.int .i64 c.aU)/\w.cell? ⟨b,2,none⟩=some (.int .i64 c.pages)/\w.cell? ⟨b,3,none⟩=some (.int .i64 c.page)/\w.cell? ⟨b,4,none⟩=some (.int .i64 c.card)/\w.cell? ⟨b,5,none⟩=some (.int .i64 c.buffer)/\w.cell? ⟨b,6,none⟩=some (.int .i64 c.stack)/\w.cell? ⟨b,7,none⟩=some (.int .i64 c.d_)/\w.cell? ⟨b,8,none⟩=some (.int .i64 c.largest)/\w.cell? ⟨b,9,none⟩=some (.int .i64 c.minor)/\w.cell? ⟨b,10,none⟩=some (.int .i64 c.major)/\w.cell? ⟨b,11,none⟩=some (.int .i64 c.dH)/\w.cell? ⟨b,12,none⟩=some (.int .i64 c.dm)
theorem dY{w:World}{b:Nat}{c:gX}{T:TypeId}(h:w.heap[b]? =some (.cells (aN c) T (0,0))):QK w b c:=
 ⟨cell_of h 0,cell_of h 1,cell_of h 2,cell_of h 3,cell_of h 4,cell_of h 5,cell_of h 6,cell_of h 7,cell_of h 8,cell_of h 9,cell_of h 10,cell_of h 11,cell_of h 12⟩
theorem JA(c:gX)(w:World)(hs:c.Small):
  Calls Tryz.prog 91 #[.agg (aN c)] w fun e w'=>e= .returned (.int .i64 c.words)/\aj [] [] w w':=by
 have hU:=aj.drew' (aj.alloc (In.nil w) (.cells (aN c) 23 (0,0)))
 have hp:=gX.pU hs
 have hm:=zA c
 have e1:IntKind.i64.wrap (c.pages*c.page)=c.pages*c.page:=IntWalk.i64_in _ (by omega)
 have e2:IntKind.i64.wrap (c.jv+c.pages*c.page)=c.words:=IntWalk.i64_in _ (by obtain⟨h1,h2,h3,h4,h5,h6⟩:=hs;unfold gX.jv;omega)
 go_enter Tryz.func91,Tryz.ntmps91
 simp only[aN]
 go_wp2
 go_region_held3 (fun w'=>w'.cell? ⟨w.heap.size,0,none⟩=some (.int .i64 c.handles)/\w'.cell? ⟨w.heap.size,1,none⟩=some (.int .i64 c.aU)/\w'.cell? ⟨w.heap.size,2,none⟩=some (.int .i64 c.pages)/\w'.cell? ⟨w.heap.size,3,none⟩=some (.int .i64 c.page)/\w'.cell? ⟨w.heap.size,4,none⟩=some (.int .i64 c.card)/\w'.cell? ⟨w.heap.size,5,none⟩=some (.int .i64 c.buffer)/\w'.cell? ⟨w.heap.size,6,none⟩=some (.int .i64 c.stack)/\w'.cell? ⟨w.heap.size,7,none⟩=some (.int .i64 c.d_)/\w'.cell? ⟨w.heap.size,8,none⟩=some (.int .i64 c.largest)/\w'.cell? ⟨w.heap.size,9,none⟩=some (.int .i64 c.minor)/\w'.cell? ⟨w.heap.size,10,none⟩=some (.int .i64 c.major)/\w'.cell? ⟨w.heap.size,11,none⟩=some (.int .i64 c.dH)/\w'.cell? ⟨w.heap.size,12,none⟩=some (.int .i64 c.dm)) (first|go_keep|exact dY (c:=c) (aj.zi u1 heap_alloc_new)) (first|(go_at_call 89;refine(hm _ hs).mono ?_;rintro e w1 ⟨rfl,u1⟩))
 go_wp2
 go_ret
 exact⟨rfl,((aj.skip (In.nil w) _).drew').trans u1⟩
theorem Nr(c:gX)(w:World)(hs:c.Small):
  Calls Tryz.prog 93 #[.agg (aN c), .int .i64 0] w fun e w'=>e= .returned (.int .i64 1)/\aj [] [] w w':=by
 have hU:=aj.skip (In.nil w) (.cells (aN c) 23 (0,0))
 obtain⟨h1,h2,h3,h4,h5,h6⟩:=hs
 rcases c with⟨handles,aU,pages,page,card,buffer,stack,d_,largest,minor,major,dH,dm⟩
 simp only[aN]at*
 have hb:bits BinOp.and IntKind.i64 0 1=0:=by kernel_rfl
 go_enter Tryz.func93,Tryz.ntmps93
 go_wp2
 go_ret
 exact⟨rfl,hU⟩
theorem gG(b0 b1 b2 b3:Bool)(p:Nat)(w:World)(h:w.heap[p]? =some (.cells #[.bool b0, .bool b1, .bool b2, .bool b3] 4 (0,0))):
  Calls Tryz.prog 45 #[.slice (some ⟨p,0,none⟩) 4 4] w fun e w'=>e= .returned (.bool (b0&&b1&&b2&&b3))/\w'=w:=
 QJ b0 b1 b2 b3 p w (cell_of h 0) (cell_of h 1) (cell_of h 2) (cell_of h 3)
theorem Jz(c:gX)(w:World):
  Calls Tryz.prog 15 #[.agg (aN c)] w fun e w'=>e= .returned (.int .i64 c.err)/\aj [] [] w w':=by
 by_cases hs:c.sizes=true
 ·have hs':=hs
  simp only[gX.sizes,Bool.and_eq_true,within_iff]at hs'
  obtain⟨⟨⟨s1,s2⟩,s3⟩,s4⟩:=hs'
  have hz:(within c.handles 1 64&&within c.aU 8 4096&&within c.pages 0 64&&within c.page 16 256)=true:=hs
  cases hwc:within c.card 1 c.page
  ·have he:c.err=1:=by simp[gX.err,gX.ok,hwc]
   rw[he]
   clear he hs
   go_enter Tryz.func15,Tryz.ntmps15
   simp only[aN]
   go_wp2
   refine eP 12 (by kernel_rfl) (by kernel_rfl) fun w1 hw1=> ?_
   subst hw1
   simp only[List.take_succ_cons,List.take_zero,List.drop_succ_cons,List.drop_zero]
   repeat(first|still_step|still_call (bD _ _ _ _))
   refine wpStill_nil ?_
   go_wp2_with(first|(go_at_call 45;refine Calls.mono (gG _ _ _ _ _ _ (aV (by simp))) ?_;rintro e w1 ⟨rfl,rfl⟩)|(go_at_call 46;refine Calls.mono (bD _ _ _ _) ?_;rintro e w1 ⟨rfl,rfl⟩))
   go_ret
   exact⟨rfl,(((aj.skip (In.nil w) _).drew').skip' _)⟩
  ·have hc:=within_iff.1 hwc
   obtain⟨k1,k2⟩:=hc
   by_cases Ou:c.page % c.card=0
   ·have Xi:(c.page % c.card==0)=true:=by simpa using Ou
    have VC:(c.page % c.card !=0)=false:=by simpa using Ou
    cases hr:c.rows
    ·have he:c.err=1:=by simp[gX.err,gX.ok,hr]
     have hzr:(within c.buffer 0 256&&within c.stack 1 256&&within c.d_ 1 7&&within c.largest 0 64)=false:=hr
     rw[he]
     clear he hs
     go_enter Tryz.func15,Tryz.ntmps15
     simp only[aN]
     go_wp2
     refine eP 12 (by kernel_rfl) (by kernel_rfl) fun w1 hw1=> ?_
     subst hw1
     simp only[List.take_succ_cons,List.take_zero,List.drop_succ_cons,List.drop_zero]
     repeat(first|still_step|still_call (bD _ _ _ _))
     refine wpStill_nil ?_
     go_wp2_with(first|(go_at_call 45;refine Calls.mono (gG _ _ _ _ _ _ (aV (by simp))) ?_;rintro e w1 ⟨rfl,rfl⟩)|(go_at_call 46;refine Calls.mono (bD _ _ _ _) ?_;rintro e w1 ⟨rfl,rfl⟩))
     refine eP 12 (by kernel_rfl) (by kernel_rfl) fun w1 hw1=> ?_
     subst hw1
     simp only[List.take_succ_cons,List.take_zero,List.drop_succ_cons,List.drop_zero]
     repeat(first|still_step|still_call (bD _ _ _ _))
     refine wpStill_nil ?_
     go_wp2_with(first|(go_at_call 45;refine Calls.mono (gG _ _ _ _ _ _ (aV (by simp))) ?_;rintro e w1 ⟨rfl,rfl⟩)|(go_at_call 46;refine Calls.mono (bD _ _ _ _) ?_;rintro e w1 ⟨rfl,rfl⟩))
     refine eP 16 (by kernel_rfl) (by kernel_rfl) fun w1 hw1=> ?_
     subst hw1
     simp only[List.take_succ_cons,List.take_zero,List.drop_succ_cons,List.drop_zero]
     repeat(first|still_step|still_call (bD _ _ _ _))
     refine wpStill_nil ?_
     go_wp2_with(first|(go_at_call 45;refine Calls.mono (gG _ _ _ _ _ _ (aV (by simp))) ?_;rintro e w1 ⟨rfl,rfl⟩)|(go_at_call 46;refine Calls.mono (bD _ _ _ _) ?_;rintro e w1 ⟨rfl,rfl⟩))
     go_ret
     exact⟨rfl,(((((((aj.skip (In.nil w) _).drew').skip' _).drew').skip' _).drew').skip' _)⟩
    ·have hzr:(within c.buffer 0 256&&within c.stack 1 256&&within c.d_ 1 7&&within c.largest 0 64)=true:=hr
     have hr2:=hzr
     simp only[Bool.and_eq_true,within_iff]at hr2
     obtain⟨_,l1,l2⟩:=hr2
     cases ht:c.KU
     ·have he:c.err=1:=by simp[gX.err,gX.ok,ht]
      have hzt:(within c.minor 0 64&&within c.major 0 64&&within c.dH 0 c.aU&&within c.dm 0 c.pages)=false:=ht
      rw[he]
      clear he hs
      go_enter Tryz.func15,Tryz.ntmps15
      simp only[aN]
      go_wp2
      refine eP 12 (by kernel_rfl) (by kernel_rfl) fun w1 hw1=> ?_
      subst hw1
      simp only[List.take_succ_cons,List.take_zero,List.drop_succ_cons,List.drop_zero]
      repeat(first|still_step|still_call (bD _ _ _ _))
      refine wpStill_nil ?_
      go_wp2_with(first|(go_at_call 45;refine Calls.mono (gG _ _ _ _ _ _ (aV (by simp))) ?_;rintro e w1 ⟨rfl,rfl⟩)|(go_at_call 46;refine Calls.mono (bD _ _ _ _) ?_;rintro e w1 ⟨rfl,rfl⟩))
      refine eP 12 (by kernel_rfl) (by kernel_rfl) fun w1 hw1=> ?_
      subst hw1
      simp only[List.take_succ_cons,List.take_zero,List.drop_succ_cons,List.drop_zero]
      repeat(first|still_step|still_call (bD _ _ _ _))
      refine wpStill_nil ?_
      go_wp2_with(first|(go_at_call 45;refine Calls.mono (gG _ _ _ _ _ _ (aV (by simp))) ?_;rintro e w1 ⟨rfl,rfl⟩)|(go_at_call 46;refine Calls.mono (bD _ _ _ _) ?_;rintro e w1 ⟨rfl,rfl⟩))
      refine eP 16 (by kernel_rfl) (by kernel_rfl) fun w1 hw1=> ?_
      subst hw1
      simp only[List.take_succ_cons,List.take_zero,List.drop_succ_cons,List.drop_zero]
      repeat(first|still_step|still_call (bD _ _ _ _))
      refine wpStill_nil ?_
      go_wp2_with(first|(go_at_call 45;refine Calls.mono (gG _ _ _ _ _ _ (aV (by simp))) ?_;rintro e w1 ⟨rfl,rfl⟩)|(go_at_call 46;refine Calls.mono (bD _ _ _ _) ?_;rintro e w1 ⟨rfl,rfl⟩))
      go_ret
      exact⟨rfl,(((((((aj.skip (In.nil w) _).drew').skip' _).drew').skip' _).drew').skip' _)⟩
     ·have hzt:(within c.minor 0 64&&within c.major 0 64&&within c.dH 0 c.aU&&within c.dm 0 c.pages)=true:=ht
      by_cases hl:c.aU<c.largest+2
      ·have he:c.err=1:=by simp[gX.err,gX.ok];omega
       rw[he]
       clear he hs
       go_enter Tryz.func15,Tryz.ntmps15
       simp only[aN]
       go_wp2
       refine eP 12 (by kernel_rfl) (by kernel_rfl) fun w1 hw1=> ?_
       subst hw1
       simp only[List.take_succ_cons,List.take_zero,List.drop_succ_cons,List.drop_zero]
       repeat(first|still_step|still_call (bD _ _ _ _))
       refine wpStill_nil ?_
       go_wp2_with(first|(go_at_call 45;refine Calls.mono (gG _ _ _ _ _ _ (aV (by simp))) ?_;rintro e w1 ⟨rfl,rfl⟩)|(go_at_call 46;refine Calls.mono (bD _ _ _ _) ?_;rintro e w1 ⟨rfl,rfl⟩))
       refine eP 12 (by kernel_rfl) (by kernel_rfl) fun w1 hw1=> ?_
       subst hw1
       simp only[List.take_succ_cons,List.take_zero,List.drop_succ_cons,List.drop_zero]
       repeat(first|still_step|still_call (bD _ _ _ _))
       refine wpStill_nil ?_
       go_wp2_with(first|(go_at_call 45;refine Calls.mono (gG _ _ _ _ _ _ (aV (by simp))) ?_;rintro e w1 ⟨rfl,rfl⟩)|(go_at_call 46;refine Calls.mono (bD _ _ _ _) ?_;rintro e w1 ⟨rfl,rfl⟩))
       refine eP 16 (by kernel_rfl) (by kernel_rfl) fun w1 hw1=> ?_
       subst hw1
       simp only[List.take_succ_cons,List.take_zero,List.drop_succ_cons,List.drop_zero]
       repeat(first|still_step|still_call (bD _ _ _ _))
       refine wpStill_nil ?_
       go_wp2_with(first|(go_at_call 45;refine Calls.mono (gG _ _ _ _ _ _ (aV (by simp))) ?_;rintro e w1 ⟨rfl,rfl⟩)|(go_at_call 46;refine Calls.mono (bD _ _ _ _) ?_;rintro e w1 ⟨rfl,rfl⟩))
       go_ret
       exact⟨rfl,(((((((aj.skip (In.nil w) _).drew').skip' _).drew').skip' _).drew').skip' _)⟩
      ·have he:c.err=0:=by simp[gX.err,gX.ok,hs,hwc,Ou,hr,ht];omega
       rw[he]
       clear he hs
       go_enter Tryz.func15,Tryz.ntmps15
       simp only[aN]
       go_wp2
       refine eP 12 (by kernel_rfl) (by kernel_rfl) fun w1 hw1=> ?_
       subst hw1
       simp only[List.take_succ_cons,List.take_zero,List.drop_succ_cons,List.drop_zero]
       repeat(first|still_step|still_call (bD _ _ _ _))
       refine wpStill_nil ?_
       go_wp2_with(first|(go_at_call 45;refine Calls.mono (gG _ _ _ _ _ _ (aV (by simp))) ?_;rintro e w1 ⟨rfl,rfl⟩)|(go_at_call 46;refine Calls.mono (bD _ _ _ _) ?_;rintro e w1 ⟨rfl,rfl⟩))
       refine eP 12 (by kernel_rfl) (by kernel_rfl) fun w1 hw1=> ?_
       subst hw1
       simp only[List.take_succ_cons,List.take_zero,List.drop_succ_cons,List.drop_zero]
       repeat(first|still_step|still_call (bD _ _ _ _))
       refine wpStill_nil ?_
       go_wp2_with(first|(go_at_call 45;refine Calls.mono (gG _ _ _ _ _ _ (aV (by simp))) ?_;rintro e w1 ⟨rfl,rfl⟩)|(go_at_call 46;refine Calls.mono (bD _ _ _ _) ?_;rintro e w1 ⟨rfl,rfl⟩))
       refine eP 16 (by kernel_rfl) (by kernel_rfl) fun w1 hw1=> ?_
       subst hw1
       simp only[List.take_succ_cons,List.take_zero,List.drop_succ_cons,List.drop_zero]
       repeat(first|still_step|still_call (bD _ _ _ _))
       refine wpStill_nil ?_
       go_wp2_with(first|(go_at_call 45;refine Calls.mono (gG _ _ _ _ _ _ (aV (by simp))) ?_;rintro e w1 ⟨rfl,rfl⟩)|(go_at_call 46;refine Calls.mono (bD _ _ _ _) ?_;rintro e w1 ⟨rfl,rfl⟩))
       go_ret
       exact⟨rfl,(((((((aj.skip (In.nil w) _).drew').skip' _).drew').skip' _).drew').skip' _)⟩
   ·have Xi:(c.page % c.card==0)=false:=by simpa using Ou
    have VC:(c.page % c.card !=0)=true:=by simpa using Ou
    have he:c.err=1:=by simp[gX.err,gX.ok,Ou]
    rw[he]
    clear he hs
    go_enter Tryz.func15,Tryz.ntmps15
    simp only[aN]
    go_wp2
    refine eP 12 (by kernel_rfl) (by kernel_rfl) fun w1 hw1=> ?_
    subst hw1
    simp only[List.take_succ_cons,List.take_zero,List.drop_succ_cons,List.drop_zero]
    repeat(first|still_step|still_call (bD _ _ _ _))
    refine wpStill_nil ?_
    go_wp2_with(first|(go_at_call 45;refine Calls.mono (gG _ _ _ _ _ _ (aV (by simp))) ?_;rintro e w1 ⟨rfl,rfl⟩)|(go_at_call 46;refine Calls.mono (bD _ _ _ _) ?_;rintro e w1 ⟨rfl,rfl⟩))
    go_ret
    exact⟨rfl,(((aj.skip (In.nil w) _).drew').skip' _)⟩
 ·have hs':c.sizes=false:=by simpa using hs
  have he:c.err=1:=by simp[gX.err,gX.ok,hs']
  have hz:(within c.handles 1 64&&within c.aU 8 4096&&within c.pages 0 64&&within c.page 16 256)=false:=hs'
  rw[he]
  clear he hs
  go_enter Tryz.func15,Tryz.ntmps15
  simp only[aN]
  go_wp2
  refine eP 12 (by kernel_rfl) (by kernel_rfl) fun w1 hw1=> ?_
  subst hw1
  simp only[List.take_succ_cons,List.take_zero,List.drop_succ_cons,List.drop_zero]
  repeat(first|still_step|still_call (bD _ _ _ _))
  refine wpStill_nil ?_
  go_wp2_with(go_at_call 45;refine Calls.mono (gG _ _ _ _ _ _ (aV (by simp))) ?_;rintro e w1 ⟨rfl,rfl⟩)
  go_ret
  exact⟨rfl,(((aj.skip (In.nil w) _).drew').skip' _)⟩
end Go.Proofs.YtibemcgdmembeaaGreat
namespace Go.Proofs.YtibemcgdmembeaaGreat
open Go.RowKit
structure Hd where
 size:Int
 ptrs:Int
 nZ:Int
 parity:Int
 dh:Bool
 aY:Bool
 old:Bool
deriving DecidableEq
def aF(h:Hd):Array Value:=#[.int .i64 h.size, .int .i64 h.ptrs, .int .i64 h.nZ, .int .i64 h.parity, .bool h.dh, .bool h.aY, .bool h.old]
def Hd.Good(h:Hd):Prop:=0<=h.size/\h.size<=64/\0<=h.ptrs/\h.ptrs<=h.size/\0<=h.nZ/\h.nZ<=7/\ (h.parity=0∨h.parity=1)
instance(h:Hd):Decidable h.Good:=by unfold Hd.Good;infer_instance
def Hd.good(h:Hd):Bool:=decide h.Good
theorem Hd.CU{h:Hd}(hn: ¬h.Good):h.good=false:=by simp[Hd.good,hn]
theorem Hd.pJ{h:Hd}(hn:h.Good):h.good=true:=by simp[Hd.good,hn]
def flag(b:Bool)(n:Int):Int:=if b then n else 0
def Hd.enc(h:Hd):Int:=h.size+h.ptrs*65536+h.nZ*4294967296+h.parity*1099511627776+flag h.dh 2199023255552+flag h.aY 4398046511104+flag h.old 8796093022208+17592186044416
theorem zg(h:Hd)(w:World):
  Calls Tryz.prog 127 #[.agg (aF h)] w fun e w'=>e= .returned (.bool h.good)/\aj [] [] w w':=by
 have hU:=aj.skip (In.nil w) (.cells (aF h) 92 (0,0))
 simp only[aF]at*
 go_enter Tryz.func127,Tryz.ntmps127
 go_wp2
 all_goals
  go_ret
  refine⟨?_,aj.skip (In.nil w) _⟩
  first
   |exact congrArg (fun b=>Ending.returned (.bool b)) (Hd.CU (by unfold Hd.Good;omega)).symm
   |exact congrArg (fun b=>Ending.returned (.bool b)) (Hd.pJ (by unfold Hd.Good;omega)).symm
   | (have hg:h.good=(h.parity==0||h.parity==1):=by
       by_cases hp:h.parity=0∨h.parity=1
       ·rw[Hd.pJ (by unfold Hd.Good;omega)]
        simpa using hp
       ·rw[Hd.CU (by unfold Hd.Good;omega)]
        symm
        simpa using hp
      exact congrArg (fun b=>Ending.returned (.bool b)) hg.symm)
theorem Kz(b:Bool)(w:World):
  Calls Tryz.prog 184 #[.bool b, .int .i64 41] w fun e w'=>e= .returned (.int .u64 (flag b 2199023255552))/\w'=w:=by
 cases b
 all_goals
  go_enter Tryz.func184,Tryz.ntmps184
  go_wp2
  go_ret
  exact⟨rfl,rfl⟩
theorem KA(b:Bool)(w:World):
  Calls Tryz.prog 184 #[.bool b, .int .i64 42] w fun e w'=>e= .returned (.int .u64 (flag b 4398046511104))/\w'=w:=by
 cases b
 all_goals
  go_enter Tryz.func184,Tryz.ntmps184
  go_wp2
  go_ret
  exact⟨rfl,rfl⟩
theorem KC(b:Bool)(w:World):
  Calls Tryz.prog 184 #[.bool b, .int .i64 43] w fun e w'=>e= .returned (.int .u64 (flag b 8796093022208))/\w'=w:=by
 cases b
 all_goals
  go_enter Tryz.func184,Tryz.ntmps184
  go_wp2
  go_ret
  exact⟨rfl,rfl⟩
theorem xq(k M:Nat)(hM:M=2^k)(a b:Int)(h0:0<=a)(h1:a<M)(h2:0<=b)(h3:b % M=0)(h4:b<18446744073709551616)(h5:a<18446744073709551616):
  bits .or .u64 a b=a+b:=by
 obtain⟨x,rfl⟩:=Int.eq_ofNat_of_zero_le h0
 obtain⟨y,rfl⟩:=Int.eq_ofNat_of_zero_le h2
 subst hM
 rw[bits_or_u64_nat x y (by omega) (by omega)]
 have hx:x<2^k:=by omega
 have hy:y % 2^k=0:=by omega
 have hq:y=2^k*(y/2^k):=by have:=Nat.div_add_mod y (2^k);omega
 have:=Nat.two_pow_add_eq_or_of_lt hx (y/2^k)
 rw[<-hq]at this
 rw[Nat.or_comm,<-this]
 omega
theorem tN(k M:Nat)(hM:M=2^k)(a:Int)(m:Int)(hm:m=M-1)(h0:0<=a)(h1:a<18446744073709551616)(h2:M<18446744073709551616):bits .and .u64 a m=a % M:=by
 obtain⟨x,rfl⟩:=Int.eq_ofNat_of_zero_le h0
 have hp:0<2^k:=Nat.two_pow_pos k
 have hm':m=((M-1:Nat):Int):=by subst hM;omega
 rw[hm',bits_and_u64_nat x (M-1) (by omega) (by omega),hM,Nat.and_two_pow_sub_one_eq_mod]
 omega
def tV(n:Int):Int:=if n=41 then 2199023255552 else if n=42 then 4398046511104 else 8796093022208
theorem QL(b:Bool)(n:Int)(w:World)(hn:n=41∨n=42∨n=43):
  Calls Tryz.prog 184 #[.bool b, .int .i64 n] w fun e w'=>e= .returned (.int .u64 (flag b (tV n)))/\w'=w:=by
 rcases hn with rfl|rfl|rfl
 ·exact Kz b w
 ·exact KA b w
 ·exact KC b w
theorem bW{w:World}{b:Nat}{x:Hd}{T:TypeId}(h:w.heap[b]? =some (.cells (aF x) T (0,0))):
  w.cell? ⟨b,0,none⟩=some (.int .i64 x.size)/\w.cell? ⟨b,1,none⟩=some (.int .i64 x.ptrs)/\w.cell? ⟨b,2,none⟩=some (.int .i64 x.nZ)/\w.cell? ⟨b,3,none⟩=some (.int .i64 x.parity)/\w.cell? ⟨b,4,none⟩=some (.bool x.dh)/\w.cell? ⟨b,5,none⟩=some (.bool x.aY)/\w.cell? ⟨b,6,none⟩=some (.bool x.old):=
 ⟨cell_of h 0,cell_of h 1,cell_of h 2,cell_of h 3,cell_of h 4,cell_of h 5,cell_of h 6⟩
theorem kX{w:World}{b:Nat}{x:Hd}{T:TypeId}(h:w.heap[b]? =some (.cells (aF x) T (0,0))):
  w.frozen? ⟨b,0,none⟩=false/\w.frozen? ⟨b,1,none⟩=false/\w.frozen? ⟨b,2,none⟩=false/\w.frozen? ⟨b,3,none⟩=false/\w.frozen? ⟨b,4,none⟩=false/\w.frozen? ⟨b,5,none⟩=false/\w.frozen? ⟨b,6,none⟩=false:=
 ⟨aO h 0,aO h 1,aO h 2,aO h 3,aO h 4,aO h 5,aO h 6⟩
def Hd.Ad(h:Hd):Int:=if h.good then h.enc else 0
theorem EJ(h:Hd)(w:World):
  Calls Tryz.prog 156 #[.agg (aF h)] w fun e w'=>e= .returned (.tuple #[.int .u64 h.Ad, .bool h.good])/\aj [] [] w w':=by
 have hgood:=zg h
 by_cases hg:h.good=true
 ·have hg':h.Good:=by simpa[Hd.good]using hg
  have he:h.Ad=h.enc:=by simp[Hd.Ad,hg]
  rw[he,hg]
  rw[hg]at hgood
  obtain⟨h1,h2,h3,h4,h5,h6,h7⟩:=hg'
  have h8:0<=h.parity:=by omega
  have h9:h.parity<=1:=by omega
  have h10:h.ptrs<=64:=by omega
  clear hg he h7
  simp only[aF]at*
  go_enter Tryz.func156,Tryz.ntmps156
  go_wp2_with(go_at_call 127;refine Calls.mono (hgood _) ?_;rintro e w1 ⟨rfl,u1⟩;obtain⟨c0,c1,c2,c3,c4,c5,c6⟩:=bW (x:=h) (aj.zi u1 heap_alloc_new))
  refine fQ (by kernel_rfl) (by kernel_rfl) fun w2 hw2=> ?_
  subst hw2
  repeat(first|still_step|still_call (QL _ _ _ (by decide)))
  refine wpStill_nil ?_
  go_wp2
  go_ret2
  refine⟨?_,((aj.skip (In.nil w) _).trans u1).drew'⟩
  have f1:flag h.dh (tV 41)=0∨flag h.dh (tV 41)=2199023255552:=by cases h.dh;exact .inl rfl;exact .inr rfl
  have f2:flag h.aY (tV 42)=0∨flag h.aY (tV 42)=4398046511104:=by cases h.aY;exact .inl rfl;exact .inr rfl
  have f3:flag h.old (tV 43)=0∨flag h.old (tV 43)=8796093022208:=by cases h.old;exact .inl rfl;exact .inr rfl
  have e1:=xq 16 65536 (by decide) h.size (h.ptrs*65536) (by omega) (by omega) (by omega) (by omega) (by omega) (by omega)
  have e2:=xq 32 4294967296 (by decide) (h.size+h.ptrs*65536) (h.nZ*4294967296) (by omega) (by omega) (by omega) (by omega) (by omega) (by omega)
  have e3:=xq 40 1099511627776 (by decide) (h.size+h.ptrs*65536+h.nZ*4294967296) (h.parity*1099511627776) (by omega) (by omega) (by omega) (by omega) (by omega) (by omega)
  have e4:=xq 41 2199023255552 (by decide) (h.size+h.ptrs*65536+h.nZ*4294967296+h.parity*1099511627776) (flag h.dh (tV 41)) (by omega) (by omega) (by omega) (by omega) (by omega) (by omega)
  have e5:=xq 42 4398046511104 (by decide) (h.size+h.ptrs*65536+h.nZ*4294967296+h.parity*1099511627776+flag h.dh (tV 41)) (flag h.aY (tV 42)) (by omega) (by omega) (by omega) (by omega) (by omega) (by omega)
  have e6:=xq 43 8796093022208 (by decide) (h.size+h.ptrs*65536+h.nZ*4294967296+h.parity*1099511627776+flag h.dh (tV 41)+flag h.aY (tV 42)) (flag h.old (tV 43)) (by omega) (by omega) (by omega) (by omega) (by omega) (by omega)
  have e7:=xq 44 17592186044416 (by decide) (h.size+h.ptrs*65536+h.nZ*4294967296+h.parity*1099511627776+flag h.dh (tV 41)+flag h.aY (tV 42)+flag h.old (tV 43)) 17592186044416 (by omega) (by omega) (by omega) (by omega) (by omega) (by omega)
  have e:bits BinOp.or IntKind.u64 (bits BinOp.or IntKind.u64 (bits BinOp.or IntKind.u64 (bits BinOp.or IntKind.u64 (bits BinOp.or IntKind.u64 (bits BinOp.or IntKind.u64 (bits BinOp.or IntKind.u64 h.size (h.ptrs*65536)) (h.nZ*4294967296)) (h.parity*1099511627776)) (flag h.dh (tV 41))) (flag h.aY (tV 42))) (flag h.old (tV 43))) 17592186044416=h.enc:=by
   rw[e1,e2,e3,e4,e5,e6,e7]
   rfl
  exact congrArg (fun x=>Ending.returned (.tuple #[.int .u64 x, .bool true])) e
 ·have hf:h.good=false:=by simpa using hg
  have he:h.Ad=0:=by simp[Hd.Ad,hf]
  rw[he,hf]
  rw[hf]at hgood
  clear he hf hg
  simp only[aF]at*
  go_enter Tryz.func156,Tryz.ntmps156
  go_wp2_with(go_at_call 127;refine Calls.mono (hgood _) ?_;rintro e w1 ⟨rfl,u1⟩)
  go_ret2
  exact⟨rfl,(aj.skip (In.nil w) _).trans u1⟩
def DI(w:Int):Hd:=⟨w % 65536,w/65536 % 65536,w/4294967296 % 256,w/1099511627776 % 2,decide (w/2199023255552 % 2=1),decide (w/4398046511104 % 2=1),decide (w/8796093022208 % 2=1)⟩
def hd0:Hd:=⟨0,0,0,0,false,false,false⟩
def lq(w:Int):Bool:=(DI w).good&&decide ((DI w).enc=w)
def Ai(w:Int):Hd:=if lq w then DI w else hd0
theorem LK{h:Hd}(hg:h.Good):DI h.enc=h:=by
 obtain⟨h1,h2,h3,h4,h5,h6,h7⟩:=hg
 rcases h with⟨size,ptrs,nZ,parity,dh,aY,old⟩
 simp only at*
 have f1:flag dh 2199023255552=0/\dh=false∨flag dh 2199023255552=2199023255552/\dh=true:=by cases dh;exact .inl ⟨rfl,rfl⟩;exact .inr ⟨rfl,rfl⟩
 have f2:flag aY 4398046511104=0/\aY=false∨flag aY 4398046511104=4398046511104/\aY=true:=by cases aY;exact .inl ⟨rfl,rfl⟩;exact .inr ⟨rfl,rfl⟩
 have f3:flag old 8796093022208=0/\old=false∨flag old 8796093022208=8796093022208/\old=true:=by cases old;exact .inl ⟨rfl,rfl⟩;exact .inr ⟨rfl,rfl⟩
 generalize he:Hd.enc ⟨size,ptrs,nZ,parity,dh,aY,old⟩=e
 unfold Hd.enc at he
 simp only at he
 simp only[DI,Hd.mk.injEq]
 refine⟨by omega,by omega,by omega,by omega, ?_, ?_, ?_⟩
 ·rcases f1 with⟨f,rfl⟩|⟨f,rfl⟩
  ·exact decide_eq_false (by omega)
  ·exact decide_eq_true (by omega)
 ·rcases f2 with⟨f,rfl⟩|⟨f,rfl⟩
  ·exact decide_eq_false (by omega)
  ·exact decide_eq_true (by omega)
 ·rcases f3 with⟨f,rfl⟩|⟨f,rfl⟩
  ·exact decide_eq_false (by omega)
  ·exact decide_eq_true (by omega)
theorem rJ{h:Hd}(hg:h.Good):lq h.enc=true:=by simp[lq,LK hg,Hd.good,hg]
theorem Aj{h:Hd}(hg:h.Good):Ai h.enc=h:=by simp[Ai,rJ hg,LK hg]
theorem AY:hd0.Good:=by decide
theorem dU(w:Int):(Ai w).Good:=by
 unfold Ai
 split
 ·rename_i h
  simp[lq,Hd.good]at h
  exact h.1
 ·exact AY
theorem KD{h:Hd}(hg:h.Good):0<=h.enc/\h.enc<18446744073709551616:=by
 obtain⟨h1,h2,h3,h4,h5,h6,h7⟩:=hg
 have f1:flag h.dh 2199023255552=0∨flag h.dh 2199023255552=2199023255552:=by cases h.dh;exact .inl rfl;exact .inr rfl
 have f2:flag h.aY 4398046511104=0∨flag h.aY 4398046511104=4398046511104:=by cases h.aY;exact .inl rfl;exact .inr rfl
 have f3:flag h.old 8796093022208=0∨flag h.old 8796093022208=8796093022208:=by cases h.old;exact .inl rfl;exact .inr rfl
 unfold Hd.enc
 omega
theorem IM(x:Int)(w:World)(h0:0<=x)(h1:x<18446744073709551616):
  Calls Tryz.prog 161 #[.int .u64 x] w fun e w'=>e= .returned (.tuple #[.agg (aF (Ai x)), .bool (lq x)])/\aj [] [] w w':=by
 obtain⟨H,hH⟩: ∃H,H=DI x:=⟨_,rfl⟩
 have q1:bits .and .u64 x 65535=H.size:=by rw[tN 16 65536 (by decide) _ _ (by decide) h0 h1 (by decide),hH];rfl
 have q2:bits .and .u64 (x/65536) 65535=H.ptrs:=by rw[tN 16 65536 (by decide) _ _ (by decide) (by omega) (by omega) (by decide),hH];rfl
 have q3:bits .and .u64 (x/4294967296) 255=H.nZ:=by rw[tN 8 256 (by decide) _ _ (by decide) (by omega) (by omega) (by decide),hH];rfl
 have q4:bits .and .u64 (x/1099511627776) 1=H.parity:=by rw[tN 1 2 (by decide) _ _ (by decide) (by omega) (by omega) (by decide),hH];rfl
 have q5:(bits .and .u64 (x/2199023255552) 1==1)=H.dh:=by rw[tN 1 2 (by decide) _ _ (by decide) (by omega) (by omega) (by decide),hH];rfl
 have q6:(bits .and .u64 (x/4398046511104) 1==1)=H.aY:=by rw[tN 1 2 (by decide) _ _ (by decide) (by omega) (by omega) (by decide),hH];rfl
 have q7:(bits .and .u64 (x/8796093022208) 1==1)=H.old:=by rw[tN 1 2 (by decide) _ _ (by decide) (by omega) (by omega) (by decide),hH];rfl
 have b1:0<=H.size/\H.size<=65535:=by rw[hH];simp only[DI];omega
 have b2:0<=H.ptrs/\H.ptrs<=65535:=by rw[hH];simp only[DI];omega
 have b3:0<=H.nZ/\H.nZ<=255:=by rw[hH];simp only[DI];omega
 have b4:0<=H.parity/\H.parity<=1:=by rw[hH];simp only[DI];omega
 obtain⟨b1,b1'⟩:=b1
 obtain⟨b2,b2'⟩:=b2
 obtain⟨b3,b3'⟩:=b3
 obtain⟨b4,b4'⟩:=b4
 have hp:=EJ H
 by_cases hi:lq x=true
 ·have hu:Ai x=H:=by rw[Ai,if_pos hi,hH]
  have hi':=hi
  simp only[lq,Bool.and_eq_true,decide_eq_true_eq,<-hH]at hi'
  obtain⟨g1,g2⟩:=hi'
  have he:H.Ad=x:=by rw[Hd.Ad,if_pos g1,g2]
  rw[hu,hi]
  rw[he,g1]at hp
  clear g1 g2 he hi hu hH
  simp only[aF]at hp
  go_enter Tryz.func161,Tryz.ntmps161
  go_wp2_with(go_at_call 156;refine Calls.mono (hp _) ?_;rintro e w1 ⟨rfl,u1⟩;have hb1:w1.heap[w.heap.size+1]? =some (.cells (aF H) 92 (0,0)):=aj.zi u1 (aV (by simp));have hb0:w1.heap[w.heap.size]? =some (.cells (aF hd0) 92 (0,0)):=aj.zi u1 ((heap_alloc_old (by simp)).trans heap_alloc_new);obtain⟨c0,c1,c2,c3,c4,c5,c6⟩:=bW hb1;obtain⟨d0,d1,d2,d3,d4,d5,d6⟩:=bW hb0;obtain⟨f0,f1,f2,f3,f4,f5,f6⟩:=kX hb0)
  refine bodyPost_ret (v:= .tuple #[.agg (aF H), .bool true]) (by simp[results,Tryz.results161,go_sem,aF,hd0,d0,d1,d2,d3,d4,d5,d6,World.cell?_setCell_same w1 _ _ d0]) rfl ⟨rfl, ?_⟩
  exact(((((((((aj.skip (In.nil w) _).skip' _).trans u1).lN (Nat.le_refl _) _).lN (Nat.le_refl _) _).lN (Nat.le_refl _) _).lN (Nat.le_refl _) _).lN (Nat.le_refl _) _).lN (Nat.le_refl _) _).lN (Nat.le_refl _) _
 ·have hi':lq x=false:=by simpa using hi
  have hu:Ai x=hd0:=by simp[Ai,hi']
  rw[hu,hi']
  clear hu
  cases hg:H.good
  ·rw[hg]at hp
   clear hi hi' hH hg
   simp only[aF]at hp
   go_enter Tryz.func161,Tryz.ntmps161
   go_wp2_with(go_at_call 156;refine Calls.mono (hp _) ?_;rintro e w1 ⟨rfl,u1⟩;have hb1:w1.heap[w.heap.size+1]? =some (.cells (aF H) 92 (0,0)):=aj.zi u1 (aV (by simp));have hb0:w1.heap[w.heap.size]? =some (.cells (aF hd0) 92 (0,0)):=aj.zi u1 ((heap_alloc_old (by simp)).trans heap_alloc_new);obtain⟨c0,c1,c2,c3,c4,c5,c6⟩:=bW hb1;obtain⟨d0,d1,d2,d3,d4,d5,d6⟩:=bW hb0;obtain⟨f0,f1,f2,f3,f4,f5,f6⟩:=kX hb0)
   refine bodyPost_ret (v:= .tuple #[.agg (aF hd0), .bool false]) (by simp[results,Tryz.results161,go_sem,aF,hd0,d0,d1,d2,d3,d4,d5,d6,World.cell?_setCell_same w1 _ _ d0]) rfl ⟨rfl, ?_⟩
   exact(((((((((aj.skip (In.nil w) _).skip' _).trans u1).lN (Nat.le_refl _) _).lN (Nat.le_refl _) _).lN (Nat.le_refl _) _).lN (Nat.le_refl _) _).lN (Nat.le_refl _) _).lN (Nat.le_refl _) _).lN (Nat.le_refl _) _
  ·have hne:H.Ad≠x:=by
    intro e
    rw[Hd.Ad,if_pos hg]at e
    simp[lq,<-hH,hg,e]at hi'
   rw[hg]at hp
   have hne':(H.Ad !=x)=true:=by simpa using hne
   clear hi hi' hH hg
   simp only[aF]at hp
   go_enter Tryz.func161,Tryz.ntmps161
   go_wp2_with(go_at_call 156;refine Calls.mono (hp _) ?_;rintro e w1 ⟨rfl,u1⟩;have hb1:w1.heap[w.heap.size+1]? =some (.cells (aF H) 92 (0,0)):=aj.zi u1 (aV (by simp));have hb0:w1.heap[w.heap.size]? =some (.cells (aF hd0) 92 (0,0)):=aj.zi u1 ((heap_alloc_old (by simp)).trans heap_alloc_new);obtain⟨c0,c1,c2,c3,c4,c5,c6⟩:=bW hb1;obtain⟨d0,d1,d2,d3,d4,d5,d6⟩:=bW hb0;obtain⟨f0,f1,f2,f3,f4,f5,f6⟩:=kX hb0)
   refine bodyPost_ret (v:= .tuple #[.agg (aF hd0), .bool false]) (by simp[results,Tryz.results161,go_sem,aF,hd0,d0,d1,d2,d3,d4,d5,d6,World.cell?_setCell_same w1 _ _ d0]) rfl ⟨rfl, ?_⟩
   exact(((((((((aj.skip (In.nil w) _).skip' _).trans u1).lN (Nat.le_refl _) _).lN (Nat.le_refl _) _).lN (Nat.le_refl _) _).lN (Nat.le_refl _) _).lN (Nat.le_refl _) _).lN (Nat.le_refl _) _).lN (Nat.le_refl _) _
theorem aj.hd{w0 w:World}{h r:Hp}{b:Nat}{x:Hd}{T:TypeId}{fr:Nat×Nat}(a:aj h ((b, .cells (aF x) T fr)::r) w0 w)(y:Hd):
  aj h ((b, .cells (aF y) T fr)::r) w0 (((((((w.setCell ⟨b,0,none⟩ (.int .i64 y.size)).setCell ⟨b,1,none⟩ (.int .i64 y.ptrs)).setCell ⟨b,2,none⟩ (.int .i64 y.nZ)).setCell ⟨b,3,none⟩ (.int .i64 y.parity)).setCell ⟨b,4,none⟩ (.bool y.dh)).setCell ⟨b,5,none⟩ (.bool y.aY)).setCell ⟨b,6,none⟩ (.bool y.old)):=by
 have u:=((((((a.store1 0 (.int .i64 y.size)).store1 1 (.int .i64 y.ptrs)).store1 2 (.int .i64 y.nZ)).store1 3 (.int .i64 y.parity)).store1 4 (.bool y.dh)).store1 5 (.bool y.aY)).store1 6 (.bool y.old)
 have e:(((((((aF x).setIfInBounds 0 (.int .i64 y.size)).setIfInBounds 1 (.int .i64 y.ptrs)).setIfInBounds 2 (.int .i64 y.nZ)).setIfInBounds 3 (.int .i64 y.parity)).setIfInBounds 4 (.bool y.dh)).setIfInBounds 5 (.bool y.aY)).setIfInBounds 6 (.bool y.old)=aF y:=by
  simp[aF]
 rw[e]at u
 exact u
end Go.Proofs.YtibemcgdmembeaaGreat
