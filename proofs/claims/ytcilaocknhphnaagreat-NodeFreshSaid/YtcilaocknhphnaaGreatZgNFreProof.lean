/-
  NodeFresh returns true for every node, record, numbers of channels and choice of what a crash keeps, and leaves its arguments as they were. No condition.
-/
import Derived.Test.YtcilaocknhphnaaGreatZgNFre5
import Derived.Test.YtcilaocknhphnaaGreatRows
namespace Go.Proofs.YtcilaocknhphnaaGreat.NodeFreshP
open Go.ChangeShapes Go.WideShapes Go.ChangeAt Go.RowKit
set_option maxRecDepth 100000 in
theorem lifted (os:Os) (started:os.Started) (H:Type) (enc:TypeId × Value->H):
  ReturnsInHanded {} Tryz.checked os 8 .any (Rows.nodeFreshSpec.pre6 enc Tryz.prog Tryz.f8 Rows.nodeFreshRow.domain false) (Rows.nodeFreshSpec.post enc Tryz.prog Tryz.f8 false true false false):=by
 refine returnsInHanded_of_change (C:=Tryz.checked) Tryz.own started (by kernel_rfl) Tryz.func8
  (ChangeSpec.witness6 (enc:=enc) (C:=Tryz.checked) false ⟨#[],#[.int .i64 0,.agg #[.int .i64 0,.slice none 0 0],.slice none 0 0,.slice none 0 0],[]⟩ 8 (by kernel_rfl) (by kernel_rfl) (by kernel_rfl) (by kernel_rfl)) ?_
 intro W base args ds gs before hval0 hW hcnd _;have hval:∀ (j:Nat) t v,Tryz.f8.params[j]? = some t->args[j]? = some v->Value.okWide Tryz.prog W .any base t v:=hval0;have hW':=hW;obtain ⟨p,q,hA0,hV,rfl,hfz,hnd⟩:=hW;have hA:DataW.TrodAll enc Tryz.prog W 0 (fun _=>true) true Tryz.f8.params.toList args.toList ds p:=hA0;rw [Tryz.params8] at hA hval;obtain ⟨v0,vs0,d0,ds0,p0,q0,hargs,rfl,rfl,h0,r0⟩:=trodAll_cons hA;obtain ⟨v1,vs1,d1,ds1,p1,q1,rfl,rfl,rfl,h1,r1⟩:=trodAll_cons r0;obtain ⟨v2,vs2,d2,ds2,p2,q2,rfl,rfl,rfl,h2,r2⟩:=trodAll_cons r1;obtain ⟨v3,vs3,d3,ds3,p3,q3,rfl,rfl,rfl,h3,r3⟩:=trodAll_cons r2;obtain ⟨rfl,rfl,rfl⟩:=trodAll_nil r3;obtain rfl:args=#[v0,v1,v2,v3]:=by cases args;simp_all
 obtain ⟨rfl,rfl⟩:=trodVars_none hV;have lt0:∀ x∈p0,x.block < W.heap.size:=by obtain ⟨m,hm⟩:=h0;exact DataW.trod_lt m _ _ _ hm
 have lt1:∀ x∈p1,x.block < W.heap.size:=by obtain ⟨m,hm⟩:=h1;exact DataW.trod_lt m _ _ _ hm
 have lt2:∀ x∈p2,x.block < W.heap.size:=by obtain ⟨m,hm⟩:=h2;exact DataW.trod_lt m _ _ _ hm
 have lt3:∀ x∈p3,x.block < W.heap.size:=by obtain ⟨m,hm⟩:=h3;exact DataW.trod_lt m _ _ _ hm
 have k0:=h0;have k1:=h1;have k2:=h2;have k3:=h3;obtain ⟨n0,rfl,rfl,rfl,wn0⟩:=open_int Tryz.underlying3 (hval 0 3 v0 rfl rfl) h0;obtain ⟨cs1,rfl,_⟩:=okWide_struct Tryz.underlying40 (hval 1 40 v1 rfl rfl);obtain ⟨l1,oa1,oc1,e1,hl1⟩:=zcI h1;obtain ⟨a2,len2,cap2,rfl⟩:=okWide_slice Tryz.underlying23 (hval 2 23 v2 rfl rfl);obtain ⟨l2,hl2⟩:=zgK h2;obtain ⟨a3,len3,cap3,rfl⟩:=okWide_slice Tryz.underlying97 (hval 3 97 v3 rfl rfl);obtain ⟨l3,hl3⟩:=zgX h3;clear hA0 hval0;have key:=zg9 W l1 oa1 oc1 (· < W.heap.size) n0 (.slice a2 len2 cap2) (.slice a3 len3 cap3) l2 l3 hl1 (fun _ e=>e) hl2 hl3;rw [<- e1] at key;refine key.mono fun e W' ⟨he,hc⟩=>?_;subst he;have bel:Below W.heap.size W W':=hc.below (fun _ _ e=>e) (zlS _);exact ⟨_,rfl,_,_,_,[],_,[],hW',trodAll_mk1 (shut_bool Tryz.underlying4 _),(trodAll_cons_mk (Below.trod Tryz.laidOut (by kernel_rfl) (of_decide_eq_true (by kernel_rfl)) k0 bel lt0) (trodAll_cons_mk (Below.trod Tryz.laidOut (by kernel_rfl) (of_decide_eq_true (by kernel_rfl)) k1 bel lt1) (trodAll_cons_mk (Below.trod Tryz.laidOut (by kernel_rfl) (of_decide_eq_true (by kernel_rfl)) k2 bel lt2) (trodAll_cons_mk (Below.trod Tryz.laidOut (by kernel_rfl) (of_decide_eq_true (by kernel_rfl)) k3 bel lt3) trodAll_mk0)))),rfl,bel.frame _,fun h=>by cases h⟩
theorem zkq:(Rows.nodeFreshRow.inPlace == Tryz.prog.inPlace 8)=true:=by kernel_rfl
theorem zkp:(Rows.nodeFreshRow.unfollowed == Tryz.prog.unfollowed 8)=true:=by kernel_rfl
theorem zko:(Rows.nodeFreshRow.recurses == Tryz.prog.recurses 8)=true:=by kernel_rfl
theorem zkn:(Rows.nodeFreshRow.named == Tryz.prog.varsNamed 8)=true:=by kernel_rfl
theorem zjy:joinedFacts Tryz.prog 8 Tryz.f8 Rows.nodeFreshSpec Rows.nodeFreshRow=true:=by
 simp only [joinedFacts,zlU]
 repeat' apply And.intro
 all_goals first | with_reducible exact zkq | with_reducible exact zkp | with_reducible exact zko | with_reducible exact zkn | kernel_rfl
theorem over:Rows.nodeFreshRow.holds Tryz.pinned (OpenSpec.ofChange Rows.nodeFreshSpec):=
 OpenClaim.holds_of_wide 8 Tryz.f8 rfl rfl rfl rfl rfl rfl rfl ⟨rfl,rfl,rfl,rfl,rfl⟩ rfl rfl rfl rfl rfl (by kernel_rfl) Tryz.func8 zjy
  (of_decide_eq_true (by kernel_rfl)) (by unfold Func.isWrapper;first | (rw [if_pos (by decide +kernel)];kernel_rfl) | (rw [if_neg (by decide +kernel)];exact ⟨rfl,rfl⟩))
  (fun os started H enc _=>lifted os started H enc)
end Go.Proofs.YtcilaocknhphnaaGreat.NodeFreshP
namespace Go.Proofs.YtcilaocknhphnaaGreat
theorem nodeFresh_holds:Rows.NodeFreshSaid:=NodeFreshP.over
end Go.Proofs.YtcilaocknhphnaaGreat
