/- The proof that DelayProves holds for every input, without conditions: part 7 of 7. -/
import Derived.Test.YtfimckpnnbibcaaGreatZ6
import Derived.Test.YtfimckpnnbibcaaGreatRows
set_option maxHeartbeats 32000000
set_option maxRecDepth 100000
namespace Go.Proofs.YtfimckpnnbibcaaGreat.delayProves
open Go.ChangeShapes Go.WideShapes Go.ChangeAt Go.RowKit
open Go.ChangeMaps (open_string shut_string)
set_option linter.unusedVariables false
theorem own:ownKnob Tryz.prog.godebug=none:=by kernel_rfl
theorem laidOut:laidOutB Tryz.prog=true:=by kernel_rfl
set_option maxRecDepth 100000 in
theorem lifted(os:Os)(started:os.Started)(H:Type)(enc:TypeId × Value ->H):
  ReturnsInHanded {} Tryz.checked os 3 .any (Rows.delayProvesSpec.pre6 enc Tryz.prog Tryz.f3 Rows.delayProvesRow.domain false) (Rows.delayProvesSpec.post enc Tryz.prog Tryz.f3 false true false false):=by
 refine returnsInHanded_of_change (C:=Tryz.checked) own started (by kernel_rfl) Tryz.func3
  (ChangeSpec.witness6 (enc:=enc) (C:=Tryz.checked) false ⟨#[], #[.slice none 0 0],[]⟩ 8 (by kernel_rfl) (by kernel_rfl) (by kernel_rfl) (by kernel_rfl)) ?_
 intro W base args ds gs before hval0 hW hcnd _;have hval:∀(j:Nat) t v,Tryz.f3.params[j]? =some t ->args[j]? =some v ->Value.okWide Tryz.prog W .any base t v:=hval0;have hW' :=hW;obtain ⟨p,q,hA0,hV,rfl,hfz,hnd⟩:=hW;have hA:DataW.TrodAll enc Tryz.prog W 0 (fun _=>true) true Tryz.f3.params.toList args.toList ds p:=hA0;rw [Tryz.params3] at hA hval;obtain ⟨v0,vs0,d0,ds0,p0,q0,hargs0,rfl,rfl,h0,r0⟩:=trodAll_cons hA;obtain ⟨rfl,rfl,rfl⟩:=trodAll_nil r0
 obtain rfl:args= #[v0]:=by cases args;simp_all
 obtain ⟨rfl,rfl⟩:=trodVars_none hV;obtain ⟨a0,len0,cap0,rfl⟩:=okWide_slice Tryz.underlying22 (hval 0 22 v0 rfl rfl);have k0:=h0
 have lt0:∀x∈p0,x.block<W.heap.size:=by obtain ⟨m,hm⟩:=k0;exact DataW.trod_lt m _ _ _ hm
 obtain ⟨f0,t0⟩:=h0;obtain ⟨u0,z0,e0,c0,w0⟩:=bytes_in Tryz.underlying22 Tryz.underlying5 (by kernel_rfl) t0
 have e0:Value.slice a0 len0 cap0=u0:=by simpa [Value.cells] using e0
 subst e0;clear hA0 hval0
 refine (((DelayProves_ok z0 c0) (fun _=>True) W [.slice a0 len0 cap0] (fun _ _=>trivial) ⟨w0,trivial⟩)).mono fun e W' ⟨v,he,hv,bel⟩=> ?_
 have hv:v= .bool true:=hv;subst hv he;exact ⟨_,rfl,_,_,_,[],_,[],hW',trodAll_mk1 (shut_bool Tryz.underlying4 _),(trodAll_cons_mk (Below.trod laidOut (by kernel_rfl) (of_decide_eq_true (by kernel_rfl)) k0 bel.kit lt0) trodAll_mk0),rfl,bel.kit.frame _,fun h=>by cases h⟩
theorem over:Rows.delayProvesRow.holds Tryz.pinned (OpenSpec.ofChange Rows.delayProvesSpec):=
 OpenClaim.holds_of_wide 3 Tryz.f3 rfl rfl rfl rfl rfl rfl rfl ⟨rfl,rfl,rfl,rfl,rfl⟩ rfl rfl rfl rfl rfl (by kernel_rfl) Tryz.func3 (by kernel_rfl)
  (of_decide_eq_true (by kernel_rfl)) (by unfold Func.isWrapper;first|(rw [if_pos (by decide+kernel)];kernel_rfl)|(rw [if_neg (by decide+kernel)];exact ⟨rfl,rfl⟩))
  (fun os started H enc _=>lifted os started H enc)
theorem proved:Rows.DelayProvesSaid:=over
#print axioms proved
end Go.Proofs.YtfimckpnnbibcaaGreat.delayProves
