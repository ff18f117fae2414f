/- CalmNone of package tilthlaw21 answers true: the given statement. Conditions: none. -/
import Derived.Test.YtibemcgdmembeaaGreatRows
import Derived.Test.YtibemcgdmembeaaGreatZ21
import Derived.Test.YtibemcgdmembeaaGreatZL
set_option linter.unusedVariables false
set_option linter.unusedSimpArgs false
set_option maxRecDepth 100000
set_option maxHeartbeats 4000000
namespace Go.Proofs.YtibemcgdmembeaaGreat
open Go.RowKit
theorem aay(w:World):Calls Tryz.prog 30 #[.pointer none] w fun e w'=>e= .returned (.int .i64 0)/\w'=w:=by
 go_enter Tryz.func30,Tryz.ntmps30
 go_wp2
 go_ret
 exact⟨by first|rfl|trivial,by first|rfl|trivial⟩
theorem aaS(w:World):Calls Tryz.prog 31 #[.pointer none] w fun e w'=>e= .returned (.int .i64 0)/\w'=w:=by
 go_enter Tryz.func31,Tryz.ntmps31
 go_wp2
 go_ret
 exact⟨by first|rfl|trivial,by first|rfl|trivial⟩
theorem aba(w:World):Calls Tryz.prog 8 #[] w fun e w'=>e= .returned (.bool true)/\aj [] [] w w':=by
 go_enter Tryz.func8,Tryz.ntmps8
 go_wp2_with(first
  | (go_at_call 29;refine Calls.mono (ZT _) ?_;rintro e w4 ⟨rfl,u4⟩)
  | (go_at_call 30;refine Calls.mono (aay _) ?_;rintro e w1 ⟨rfl,hw1⟩;obtain rfl:=hw1.symm;clear hw1)
  | (go_at_call 31;refine Calls.mono (aaS _) ?_;rintro e w2 ⟨rfl,hw2⟩;obtain rfl:=hw2.symm;clear hw2))
 go_ret
 exact⟨by first|rfl|trivial,u4⟩
end Go.Proofs.YtibemcgdmembeaaGreat
namespace Go.Proofs.YtibemcgdmembeaaGreat
open Go.ChangeShapes Go.WideShapes Go.ChangeAt Go.RowKit
theorem aaz(os:Os)(started:os.Started)(H:Type)(enc:TypeId×Value->H):
  ReturnsInHanded {} Tryz.checked os 8 .any (Rows.calmNoneSpec.pre6 enc Tryz.prog Tryz.f8 Rows.calmNoneRow.domain false) (Rows.calmNoneSpec.post enc Tryz.prog Tryz.f8 false true false false):=by
 refine returnsInHanded_of_change (C:=Tryz.checked) Tryz.own started (by kernel_rfl) Tryz.func8
  (ChangeSpec.witness6 (enc:=enc) (C:=Tryz.checked) false ⟨#[],#[],[]⟩ 8 (by kernel_rfl) (by kernel_rfl) (by kernel_rfl) (by kernel_rfl)) ?_
 intro W base args ds gs before hval0 hW hcnd _
 have hval: ∀(j:Nat) t v,Tryz.f8.params[j]? =some t->args[j]? =some v->Value.okWide Tryz.prog W .any base t v:=hval0
 have hW':=hW
 obtain⟨p,q,hA0,hV,rfl,hfz,hnd⟩:=hW
 have hA:DataW.TrodAll enc Tryz.prog W 0 (fun _=>true) true Tryz.f8.params.toList args.toList ds p:=hA0
 rw[Tryz.params8]at hA hval
 obtain⟨hargs,rfl,rfl⟩:=trodAll_nil hA
 obtain rfl:args=#[]:=by cases args;simp_all
 obtain⟨rfl,rfl⟩:=trodVars_none hV
 clear hA0 hval0
 refine(aba W).mono fun e W' ⟨he,hu⟩=> ?_
 subst he
 exact⟨_,rfl,zQ (pv:=[]) hW' (fun _ _ _=>trodAll_cons_mk (shut_bool Tryz.underlying4 _) trodAll_mk0) trodAll_mk0 (fun _ _=>rfl) rfl
  (hu.below.frame _)⟩
theorem calmNone_holds:Rows.CalmNoneSaid:=
 OpenClaim.holds_of_wide 8 Tryz.f8 rfl rfl rfl rfl rfl rfl rfl ⟨rfl,rfl,rfl,rfl,rfl⟩ rfl rfl rfl rfl rfl (by kernel_rfl) Tryz.func8 (by kernel_rfl)
  (of_decide_eq_true (by kernel_rfl)) (by unfold Func.isWrapper;first|(rw[if_pos (by decide+kernel)];kernel_rfl)|(rw[if_neg (by decide+kernel)];exact⟨rfl,rfl⟩))
  (fun os started H enc _=>aaz os started H enc)
#print axioms calmNone_holds
end Go.Proofs.YtibemcgdmembeaaGreat
