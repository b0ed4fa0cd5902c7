/-
  NodeRoots returns true for every record and node, and leaves its arguments as they were. No condition.
-/
import Derived.Test.YtcilaocknhphnaaGreatZrNRoots
import Derived.Test.YtcilaocknhphnaaGreatRows
namespace Go.Proofs.YtcilaocknhphnaaGreat.NodeRootsP
open Go.ChangeShapes Go.WideShapes Go.ChangeAt Go.RowKit
set_option maxRecDepth 100000 in
theorem lifted (os:Os) (started:os.Started) (H:Type) (enc:TypeId × Value->H):
    ReturnsInHanded {} Tryz.checked os 4 .any (Rows.nodeRootsSpec.pre6 enc Tryz.prog Tryz.f4 Rows.nodeRootsRow.domain false) (Rows.nodeRootsSpec.post enc Tryz.prog Tryz.f4 false true false false):=by
  refine returnsInHanded_of_change (C:=Tryz.checked) Tryz.own started (by kernel_rfl) Tryz.func4
    (ChangeSpec.witness6 (enc:=enc) (C:=Tryz.checked) false ⟨#[],#[.agg #[.int .i64 0,.slice none 0 0],.int .i64 0],[]⟩ 8 (by kernel_rfl) (by kernel_rfl) (by kernel_rfl) (by kernel_rfl)) ?_
  intro W base args ds gs before hval0 hW hcnd _;have hval:∀ (j:Nat) t v,Tryz.f4.params[j]? = some t->args[j]? = some v->Value.okWide Tryz.prog W .any base t v:=hval0;have hW':=hW;obtain ⟨p,q,hA0,hV,rfl,hfz,hnd⟩:=hW;have hA:DataW.TrodAll enc Tryz.prog W 0 (fun _=>true) true Tryz.f4.params.toList args.toList ds p:=hA0;rw [Tryz.params4] at hA hval;obtain ⟨v0,vs0,d0,ds0,p0,q0,hargs,rfl,rfl,h0,r0⟩:=trodAll_cons hA;obtain ⟨v1,vs1,d1,ds1,p1,q1,rfl,rfl,rfl,h1,r1⟩:=trodAll_cons r0;obtain ⟨rfl,rfl,rfl⟩:=trodAll_nil r1;obtain rfl:args=#[v0,v1]:=by cases args;simp_all
  obtain ⟨rfl,rfl⟩:=trodVars_none hV;have lt0:∀ x∈p0,x.block < W.heap.size:=by obtain ⟨m,hm⟩:=h0;exact DataW.trod_lt m _ _ _ hm
  have lt1:∀ x∈p1,x.block < W.heap.size:=by obtain ⟨m,hm⟩:=h1;exact DataW.trod_lt m _ _ _ hm
  have k0:=h0;have k1:=h1;obtain ⟨cs0,rfl,_⟩:=okWide_struct Tryz.underlying40 (hval 0 40 v0 rfl rfl);obtain ⟨l0,hl0⟩:=za9 h0;obtain ⟨n1,rfl,rfl,rfl,wn1⟩:=open_int Tryz.underlying3 (hval 1 3 v1 rfl rfl) h1;clear hA0 hval0;refine (zcR W _ n1 l0 hl0).mono fun e W' ⟨he,hc⟩=>?_;subst he;have bel:Below W.heap.size W W':=hc.below (fun _ _ e=>e) (zhb _);exact ⟨_,rfl,_,_,_,[],_,[],hW',trodAll_mk1 (shut_bool Tryz.underlying4 _),(trodAll_cons_mk (Below.trod Tryz.laidOut (by kernel_rfl) (of_decide_eq_true (by kernel_rfl)) k0 bel lt0) (trodAll_cons_mk (Below.trod Tryz.laidOut (by kernel_rfl) (of_decide_eq_true (by kernel_rfl)) k1 bel lt1) trodAll_mk0)),rfl,bel.frame _,fun h=>by cases h⟩
theorem zf9:(Rows.nodeRootsRow.inPlace == Tryz.prog.inPlace 4)=true:=by kernel_rfl
theorem zf8:(Rows.nodeRootsRow.unfollowed == Tryz.prog.unfollowed 4)=true:=by kernel_rfl
theorem zf7:(Rows.nodeRootsRow.recurses == Tryz.prog.recurses 4)=true:=by kernel_rfl
theorem zf6:(Rows.nodeRootsRow.named == Tryz.prog.varsNamed 4)=true:=by kernel_rfl
theorem facts:joinedFacts Tryz.prog 4 Tryz.f4 Rows.nodeRootsSpec Rows.nodeRootsRow=true:=by
  simp only [joinedFacts,zhd]
  repeat' apply And.intro
  all_goals first | with_reducible exact zf9 | with_reducible exact zf8 | with_reducible exact zf7 | with_reducible exact zf6 | kernel_rfl
theorem over:Rows.nodeRootsRow.holds Tryz.pinned (OpenSpec.ofChange Rows.nodeRootsSpec):=
  OpenClaim.holds_of_wide 4 Tryz.f4 rfl rfl rfl rfl rfl rfl rfl ⟨rfl,rfl,rfl,rfl,rfl⟩ rfl rfl rfl rfl rfl (by kernel_rfl) Tryz.func4 facts
    (of_decide_eq_true (by kernel_rfl)) (by unfold Func.isWrapper;first | (rw [if_pos (by decide +kernel)];kernel_rfl) | (rw [if_neg (by decide +kernel)];exact ⟨rfl,rfl⟩))
    (fun os started H enc _=>lifted os started H enc)
end Go.Proofs.YtcilaocknhphnaaGreat.NodeRootsP
namespace Go.Proofs.YtcilaocknhphnaaGreat
theorem nodeRoots_holds:Rows.NodeRootsSaid:=NodeRootsP.over
end Go.Proofs.YtcilaocknhphnaaGreat
