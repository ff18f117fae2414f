/- WalkNone of package tilthlaw19 answers true: the given statement. Conditions: none. -/
import Derived.Test.YtibemcgdmembeaaGreatRows
import Derived.Test.YtibemcgdmembeaaGreatZ19
import Derived.Test.YtibemcgdmembeaaGreatZL
set_option linter.unusedVariables false
set_option linter.unusedSimpArgs false
set_option maxRecDepth 100000
set_option maxHeartbeats 4000000
namespace Go.Proofs.YtibemcgdmembeaaGreat
open Go.RowKit
theorem wH(w:World):Calls Tryz.prog 38 #[.pointer none] w fun e w'=>e= .returned (.slice none 0 0)/\w'=w:=by
 go_enter Tryz.func38,Tryz.ntmps38
 go_wp2
 go_ret
 exact⟨by first|rfl|trivial,by first|rfl|trivial⟩
theorem CX(w:World):Calls Tryz.prog 22 #[.pointer none] w fun e w'=>e= .returned (.tuple #[.slice none 0 0, .slice none 0 0])/\w'=w:=by
 go_enter Tryz.func22,Tryz.ntmps22
 go_wp2
 go_ret2
 exact⟨by first|rfl|trivial,by first|rfl|trivial⟩
theorem CY(w:World):Calls Tryz.prog 37 #[.pointer none] w fun e w'=>e= .returned (.tuple #[.int .i64 0, .int .i64 0])/\w'=w:=by
 go_enter Tryz.func37,Tryz.ntmps37
 go_wp2_with(go_at_call 38;refine Calls.mono (wH _) ?_;rintro e w1 ⟨rfl,hw1⟩;subst hw1)
 go_loopw [2,3,10] (fun y o i wr=>y= .int .i64 0/\o= .int .i64 0/\i= .int .i64 0/\wr=w1) (fun _ _ _ _=>0)
 case atStart=>exact⟨rfl,rfl,rfl,rfl⟩
 case round=>
  obtain⟨rfl,rfl,rfl,rfl⟩:=hrel
  go_wp2
  go_ret2
  exact⟨by first|rfl|trivial,by first|rfl|trivial⟩
theorem FV(w:World):Calls Tryz.prog 11 #[] w fun e w'=>e= .returned (.bool true)/\aj [] [] w w':=by
 go_enter Tryz.func11,Tryz.ntmps11
 go_wp2_with(first
  | (go_at_call 22;refine Calls.mono (CX _) ?_;rintro e w1 ⟨rfl,rfl⟩)
  | (go_at_call 37;refine Calls.mono (CY _) ?_;rintro e w2 ⟨rfl,rfl⟩)
  | (go_at_call 38;refine Calls.mono (wH _) ?_;rintro e w3 ⟨rfl,rfl⟩)
  | (go_at_call 35;refine Calls.mono (F9 _) ?_;rintro e w4 ⟨rfl,u4⟩))
 go_ret
 exact⟨by first|rfl|trivial,u4⟩
end Go.Proofs.YtibemcgdmembeaaGreat
namespace Go.Proofs.YtibemcgdmembeaaGreat
open Go.ChangeShapes Go.WideShapes Go.ChangeAt Go.RowKit
theorem Ae(os:Os)(started:os.Started)(H:Type)(enc:TypeId×Value->H):
  ReturnsInHanded {} Tryz.checked os 11 .any (Rows.walkNoneSpec.pre6 enc Tryz.prog Tryz.f11 Rows.walkNoneRow.domain false) (Rows.walkNoneSpec.post enc Tryz.prog Tryz.f11 false true false false):=by
 refine returnsInHanded_of_change (C:=Tryz.checked) Tryz.own started (by kernel_rfl) Tryz.func11
  (ChangeSpec.witness6 (enc:=enc) (C:=Tryz.checked) false ⟨#[],#[],[]⟩ 8 (by kernel_rfl) (by kernel_rfl) (by kernel_rfl) (by kernel_rfl)) ?_
 intro W base args ds gs before hval0 hW hcnd _
 have hval: ∀(j:Nat) t v,Tryz.f11.params[j]? =some t->args[j]? =some v->Value.okWide Tryz.prog W .any base t v:=hval0
 have hW':=hW
 obtain⟨p,q,hA0,hV,rfl,hfz,hnd⟩:=hW
 have hA:DataW.TrodAll enc Tryz.prog W 0 (fun _=>true) true Tryz.f11.params.toList args.toList ds p:=hA0
 rw[Tryz.params11]at hA hval
 obtain⟨hargs,rfl,rfl⟩:=trodAll_nil hA
 obtain rfl:args=#[]:=by cases args;simp_all
 obtain⟨rfl,rfl⟩:=trodVars_none hV
 clear hA0 hval0
 refine(FV W).mono fun e W' ⟨he,hu⟩=> ?_
 subst he
 exact⟨_,rfl,zQ (pv:=[]) hW' (fun _ _ _=>trodAll_cons_mk (shut_bool Tryz.underlying4 _) trodAll_mk0) trodAll_mk0 (fun _ _=>rfl) rfl
  (hu.below.frame _)⟩
theorem walkNone_holds:Rows.WalkNoneSaid:=
 OpenClaim.holds_of_wide 11 Tryz.f11 rfl rfl rfl rfl rfl rfl rfl ⟨rfl,rfl,rfl,rfl,rfl⟩ rfl rfl rfl rfl rfl (by kernel_rfl) Tryz.func11 (by kernel_rfl)
  (of_decide_eq_true (by kernel_rfl)) (by unfold Func.isWrapper;first|(rw[if_pos (by decide+kernel)];kernel_rfl)|(rw[if_neg (by decide+kernel)];exact⟨rfl,rfl⟩))
  (fun os started H enc _=>Ae os started H enc)
#print axioms walkNone_holds
end Go.Proofs.YtibemcgdmembeaaGreat
