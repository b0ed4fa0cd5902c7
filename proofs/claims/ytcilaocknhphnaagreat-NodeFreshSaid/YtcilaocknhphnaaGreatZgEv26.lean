/-
  
-/
import Derived.Test.YtcilaocknhphnaaGreatZgEv20
namespace Go.Proofs.YtcilaocknhphnaaGreat.Ev
section
variable {P : Program}
def markOf (P:Program) (ops:Array Oper) (o:Oper) (b:Nat):DI:=⟨stepC P ops o,kindO o.op,maskD o.dst,Nat.lor (guardM ops o.guard) (tmpsO o.op.operands.toList),b⟩
theorem marks_ok {ops:Array Oper}:∀ (os:List Oper) (l:List DI) (n:Nat) (R:List DI),marksD P ops os l n=some R->l.length=n ->
  R.length=n+os.length∧R.drop os.length=l∧∀ j o,os[j]? = some o->∃ b,befE (R.drop (os.length - j)) (n+j) o.after.toList=some b∧wellD (markOf P ops o b) (R.drop (os.length - j)) (n+j)=true∧R[os.length - 1 - j]? = some (markOf P ops o b)
 | [],l,n,R,h,hl=>by cases h;exact ⟨by simpa using hl,by simp,fun j o hj=>by simp at hj⟩
 | o :: os,l,n,R,h,hl=>by
  obtain ⟨b,h1,h⟩:=ob_none_eq (show ob none (befE l n o.after.toList) (fun b=>iteB (wellD (markOf P ops o b) l n) (marksD P ops os (markOf P ops o b :: l) (Nat.add n 1)) none)=some R from h);obtain ⟨h2,h⟩:=iteB_some h;obtain ⟨g1,g2,g3⟩:=marks_ok os _ _ R h (by simp [hl]);have g1:R.length=n+1+os.length:=g1
  have hdrop:R.drop (os.length+1)=l:=by
   rw [<- List.drop_drop,g2];rfl
  refine ⟨by simp;omega,by simpa using hdrop,fun j o' hj=>?_⟩;cases j with
  | zero=>
   simp at hj;subst hj;refine ⟨b,by simpa [hdrop] using h1,by simpa [hdrop] using h2,?_⟩;have:(R.drop os.length)[0]? = some (markOf P ops o b):=by rw [g2];rfl
   rw [List.getElem?_drop] at this
   simpa using this
  | succ j=>
   obtain ⟨b',e1,e2,e3⟩:=g3 j o' (by simpa using hj);have hjl:j < os.length:=(List.getElem?_eq_some_iff.1 (show os[j]? = some o' by simpa using hj)).1;refine ⟨b',?_,?_,?_⟩
   ·rw [show (o :: os).length - (j+1)=os.length - j by simp,show n+(j+1)=Nat.add n 1+j by show _=n+1+j;omega];exact e1
   ·rw [show (o :: os).length - (j+1)=os.length - j by simp,show n+(j+1)=Nat.add n 1+j by show _=n+1+j;omega];exact e2
   ·rw [show (o :: os).length - 1 - (j+1)=os.length - 1 - j by simp;omega];exact e3
theorem well_ok {y:DI}:∀ (l:List DI) (n:Nat),wellD y l n=true->l.length=n->∀ i x,l[n - 1 - i]? = some x->i < n->Nat.testBit y.bef i=true∨freeD x y=true
 | [],n,_,hl,i,x,hx,hi=>by simp at hx
 | z :: l,n,h,hl,i,x,hx,hi=>by
  have hl:l.length=n - 1:=by simp at hl;omega
  have h:iteB (Nat.testBit y.bef (n - 1)) (wellD y l (n - 1)) (iteB (freeD z y) (wellD y l (n - 1)) false)=true:=h
  have rest:wellD y l (n - 1)=true:=by
   cases hb:Nat.testBit y.bef (n - 1) with
   | true=>rw [hb] at h;exact h
   | false=>
    rw [hb] at h;cases hf:freeD z y with
    | true=>have h:iteB (freeD z y) (wellD y l (n - 1)) false=true:=h;rw [hf] at h;exact h
    | false=>have h:iteB (freeD z y) (wellD y l (n - 1)) false=true:=h;rw [hf] at h;cases h
  by_cases e:i=n - 1
  ·subst e
   rw [show n - 1 - (n - 1)=0 by omega] at hx;simp at hx;subst hx;cases hb:Nat.testBit y.bef (n - 1) with
   | true=>exact .inl rfl
   | false=>
    rw [hb] at h;have h:iteB (freeD z y) (wellD y l (n - 1)) false=true:=h;cases hf:freeD z y with
    | true=>exact .inr rfl
    | false=>rw [hf] at h;cases h
  ·refine well_ok l (n - 1) rest hl i x ?_ (by omega)
   rw [show n - 1 - i=(n - 1 - 1 - i)+1 by omega] at hx
   simpa using hx
def Shut (ops:Array Oper) (D:Array Bool):Prop:=∀ (j:Nat) (o:Oper),ops[j]? = some o->D.getD j false=true->∀ e∈o.after,Region.binds .any e=true->D.getD e.on false=true
def Next' (D:Array Bool) (o:Oper):Prop:=∀ e∈o.after,Region.binds .any e=true->D.getD e.on false=true
theorem bef_ok {D:Array Bool} {l:List DI} {n:Nat} (hl:l.length=n) (ih:∀ j x,l[n - 1 - j]? = some x->j < n->D.getD j false=true->∀ i,Nat.testBit x.bef i=true->D.getD i false=true):
  ∀ (es:List Edge) (b:Nat),befE l n es=some b->(∀ e∈es,Region.binds .any e=true->D.getD e.on false=true)->∀ i,Nat.testBit b i=true->D.getD i false=true
 | [],b,h,_,i,hi=>by cases h;simp at hi
 | e :: es,b,h,hn,i,hi=>by
  obtain ⟨r,h1,h⟩:=ob_none_eq (show ob none (befE l n es) (fun r=>iteB (Region.binds .any e) (iteB (Nat.blt e.on n) (ob none (headA (dropA (n - (e.on+1)) l)) fun d=>some (Nat.lor r (Nat.lor (Nat.pow 2 e.on) d.bef))) none) (some r))=some b from h);have hr:=bef_ok hl ih es r h1 fun e he=>hn e (List.mem_cons_of_mem _ he);cases hb:Region.binds .any e with
  | false=>rw [hb] at h;cases h;exact hr i hi
  | true=>
   rw [hb] at h;obtain ⟨h2,h⟩:=iteB_some (show iteB (Nat.blt e.on n) (ob none (headA (dropA (n - (e.on+1)) l)) fun d=>some (Nat.lor r (Nat.lor (Nat.pow 2 e.on) d.bef))) none=some b from h);obtain ⟨d,h3,h⟩:=ob_none_eq h;cases h;have he:=hn e List.mem_cons_self hb;have h2:e.on < n:=by simpa [Nat.blt_eq] using h2
   have hx:=headA_drop h3;have hi:Nat.testBit (r ||| (2 ^ e.on ||| d.bef)) i=true:=hi;rw [Nat.testBit_or,Nat.testBit_or,Bool.or_eq_true,Bool.or_eq_true] at hi;rcases hi with hi | hi | hi
   ·exact hr i hi
   ·have:i=e.on:=by
     by_cases q:e.on=i
     ·exact q.symm
     ·rw [Nat.testBit_two_pow_of_ne q] at hi;cases hi
    rw [this];exact he
   ·exact ih e.on d (by rw [show n - 1 - e.on=n - (e.on+1) by omega];exact hx) h2 he i hi
theorem before_ok {ops:Array Oper} {R:List DI} (hR:marksD P ops ops.toList [] 0=some R) {D:Array Bool} (hD:Shut ops D):∀ (j:Nat) (o:Oper) (x:DI),ops[j]? = some o->R[ops.size - 1 - j]? = some x->(D.getD j false=true∨Next' D o) ->
  ∀ i,Nat.testBit x.bef i=true->D.getD i false=true:=by
 obtain ⟨m1,m2,m3⟩:=marks_ok ops.toList [] 0 R hR rfl;rw [Array.length_toList (xs:=ops)] at m1 m2 m3;intro j;induction j using Nat.strongRecOn with
 | _ j ih=>
  intro o x ho hx hn;obtain ⟨b,h1,h2,h3⟩:=m3 j o (by rw [Array.getElem?_toList];exact ho);rw [hx] at h3;cases h3;have hj:=(Array.getElem?_eq_some_iff.1 ho).1
  have hnx:∀ e∈o.after.toList,Region.binds .any e=true->D.getD e.on false=true:=by
   intro e he hb;rcases hn with hn | hn
   ·exact hD j o ho hn e (by simpa using he) hb
   ·exact hn e (by simpa using he) hb
  rw [Nat.zero_add] at h1;refine bef_ok (n:=j) (by rw [List.length_drop];omega) (fun i y hy hi hdi=>?_) _ b h1 hnx;rw [List.getElem?_drop,show ops.size - j+(j - 1 - i)=ops.size - 1 - i by omega] at hy;have hio:i < ops.size:=by omega
  exact ih i hi ops[i] y (Array.getElem?_eq_getElem hio) hy (.inl hdi)
theorem free_ok {ops:Array Oper} {R:List DI} (hR:marksD P ops ops.toList [] 0=some R) {i j:Nat} {x y:DI} (hij:i < j) (hj:j < ops.size) (hx:R[ops.size - 1 - i]? = some x) (hy:R[ops.size - 1 - j]? = some y):Nat.testBit y.bef i=true∨freeD x y=true:=by
 obtain ⟨m1,m2,m3⟩:=marks_ok ops.toList [] 0 R hR rfl;rw [Array.length_toList (xs:=ops)] at m1 m2 m3;obtain ⟨b,h1,h2,h3⟩:=m3 j ops[j] (by rw [Array.getElem?_toList];exact Array.getElem?_eq_getElem hj);rw [hy] at h3;cases h3;rw [Nat.zero_add] at h2;exact well_ok _ j h2 (by rw [List.length_drop];omega) i x (by rw [List.getElem?_drop,show ops.size - j+(j - 1 - i)=ops.size - 1 - i by omega];exact hx) hij
theorem mark_at {ops:Array Oper} {R:List DI} (hR:marksD P ops ops.toList [] 0=some R) {j:Nat} {o:Oper} (ho:ops[j]? = some o):∃ b,R[ops.size - 1 - j]? = some (markOf P ops o b):=by
 obtain ⟨m1,m2,m3⟩:=marks_ok ops.toList [] 0 R hR rfl;rw [Array.length_toList (xs:=ops)] at m1 m2 m3;obtain ⟨b,h1,h2,h3⟩:=m3 j o (by rw [Array.getElem?_toList];exact ho);exact ⟨b,h3⟩
theorem clashD_ok {y:DI} {k:Nat}:∀ (l:List DI) (n:Nat) (r:List Clash),l.length=n->(∀ c∈r,c∈clashD y k l n r)∧∀ i x,l[n - 1 - i]? = some x->i < n->Nat.testBit y.bef i=false ->
  (x.kind=2->y.kind=3->(⟨x.c,i,k⟩:Clash)∈clashD y k l n r)∧(x.kind=3->y.kind=2->(⟨y.c,k,i⟩:Clash)∈clashD y k l n r)
 | [],n,r,hl=>⟨fun c hc=>hc,fun i x hx=>by simp at hx⟩
 | z :: l,n,r,hl=>by
  have hl:l.length=n - 1:=by simp at hl;omega
  have e:clashD y k (z :: l) n r=iteB (Nat.testBit y.bef (n - 1)) (clashD y k l (n - 1) r)
   (iteB (andB (Nat.beq z.kind 2) (Nat.beq y.kind 3)) (clashD y k l (n - 1) (⟨z.c,n - 1,k⟩ :: r))
    (iteB (andB (Nat.beq z.kind 3) (Nat.beq y.kind 2)) (clashD y k l (n - 1) (⟨y.c,k,n - 1⟩ :: r)) (clashD y k l (n - 1) r))):=rfl
  have sub:∀ r',(∀ c∈r,c∈r')->clashD y k (z :: l) n r=clashD y k l (n - 1) r'->(∀ c∈r,c∈clashD y k (z :: l) n r)∧∀ i x,(z :: l)[n - 1 - i]? = some x->i < n->i≠n - 1->Nat.testBit y.bef i=false ->
    (x.kind=2->y.kind=3->(⟨x.c,i,k⟩:Clash)∈clashD y k (z :: l) n r)∧(x.kind=3->y.kind=2->(⟨y.c,k,i⟩:Clash)∈clashD y k (z :: l) n r):=by
   intro r' hr' he;obtain ⟨g1,g2⟩:=clashD_ok l (n - 1) r' hl;rw [he];refine ⟨fun c hc=>g1 c (hr' c hc),fun i x hx hi hne hb=>g2 i x ?_ (by omega) hb⟩;rw [show n - 1 - i=(n - 1 - 1 - i)+1 by omega] at hx
   simpa using hx
  cases hb:Nat.testBit y.bef (n - 1) with
  | true=>
   obtain ⟨g1,g2⟩:=sub r (fun _ h=>h) (by rw [e,hb];rfl);refine ⟨g1,fun i x hx hi hbi=>?_⟩;by_cases q:i=n - 1
   ·subst q;rw [hb] at hbi;cases hbi
   ·exact g2 i x hx hi q hbi
  | false=>
   rw [hb] at e;cases h1:andB (Nat.beq z.kind 2) (Nat.beq y.kind 3) with
   | true=>
    rw [h1] at e;obtain ⟨g1,g2⟩:=sub _ (fun _ h=>List.mem_cons_of_mem _ h) e;refine ⟨g1,fun i x hx hi hbi=>?_⟩;by_cases q:i=n - 1
    ·subst q
     rw [Nat.sub_self] at hx;simp at hx;subst hx;obtain ⟨a1,a2⟩:=andB_iff.1 h1;refine ⟨fun _ _=>?_,fun q=>absurd (q.symm.trans (Nat.eq_of_beq_eq_true a1)) (by decide)⟩;rw [show clashD y k (z :: l) n r=_ from e];exact (clashD_ok l (n - 1) _ hl).1 _ List.mem_cons_self
    ·exact g2 i x hx hi q hbi
   | false=>
    rw [h1] at e;cases h2:andB (Nat.beq z.kind 3) (Nat.beq y.kind 2) with
    | true=>
     rw [h2] at e;obtain ⟨g1,g2⟩:=sub _ (fun _ h=>List.mem_cons_of_mem _ h) e;refine ⟨g1,fun i x hx hi hbi=>?_⟩;by_cases q:i=n - 1
     ·subst q
      rw [Nat.sub_self] at hx;simp at hx;subst hx;obtain ⟨a1,a2⟩:=andB_iff.1 h2;refine ⟨fun q=>absurd (q.symm.trans (Nat.eq_of_beq_eq_true a1)) (by decide),fun _ _=>?_⟩;rw [show clashD y k (z :: l) n r=_ from e];exact (clashD_ok l (n - 1) _ hl).1 _ List.mem_cons_self
     ·exact g2 i x hx hi q hbi
    | false=>
     rw [h2] at e;obtain ⟨g1,g2⟩:=sub r (fun _ h=>h) e;refine ⟨g1,fun i x hx hi hbi=>?_⟩;by_cases q:i=n - 1
     ·subst q
      rw [Nat.sub_self] at hx;simp at hx;subst hx;refine ⟨fun q1 q2=>?_,fun q1 q2=>?_⟩
      ·rw [q1,q2] at h1;cases h1
      ·rw [q1,q2] at h2;cases h2
     ·exact g2 i x hx hi q hbi
theorem clashes_ok:∀ (l:List DI) (n:Nat) (r:List Clash),l.length=n->(∀ c∈r,c∈clashesD l n r)∧∀ i k x y,i < k->k < n->l[n - 1 - i]? = some x->l[n - 1 - k]? = some y->Nat.testBit y.bef i=false ->
  (x.kind=2->y.kind=3->(⟨x.c,i,k⟩:Clash)∈clashesD l n r)∧(x.kind=3->y.kind=2->(⟨y.c,k,i⟩:Clash)∈clashesD l n r)
 | [],n,r,hl=>⟨fun c hc=>hc,fun i k x y _ hk hx=>by simp at hx⟩
 | z :: l,n,r,hl=>by
  have hl:l.length=n - 1:=by simp at hl;omega
  have e:clashesD (z :: l) n r=clashesD l (n - 1) (clashD z (n - 1) l (n - 1) r):=rfl;obtain ⟨g1,g2⟩:=clashes_ok l (n - 1) (clashD z (n - 1) l (n - 1) r) hl;obtain ⟨g3,g4⟩:=clashD_ok (y:=z) (k:=n - 1) l (n - 1) r hl;rw [e];refine ⟨fun c hc=>g1 c (g3 c hc),fun i k x y hik hk hx hy hb=>?_⟩;rw [show n - 1 - i=(n - 1 - 1 - i)+1 by omega] at hx;have hx:l[n - 1 - 1 - i]? = some x:=by simpa using hx
  by_cases q:k=n - 1
  ·subst q
   rw [Nat.sub_self] at hy;simp at hy;subst hy;obtain ⟨a,b⟩:=g4 i x hx hik hb;exact ⟨fun p q=>g1 _ (a p q),fun p q=>g1 _ (b p q)⟩
  ·rw [show n - 1 - k=(n - 1 - 1 - k)+1 by omega] at hy
   exact g2 i k x y hik (by omega) hx (by simpa using hy) hb
end
end Go.Proofs.YtcilaocknhphnaaGreat.Ev
namespace Go.Proofs.YtcilaocknhphnaaGreat.Ev
section
variable {P : Program} {φ : Phi} {h : H} {w w' : World}
theorem Rel.takein (r:Rel φ h w) {p:Pl} (hne:∀ b q,φ b=some q->q.b≠p.b) (hp':p.b < w.heap.size) {x:Blk} (hx:BlkOk (φ.add h.n p) h.lo w p x):Rel (φ.add h.n p) (h.add x) w:=by
 have hext:Ext φ (φ.add h.n p):=Phi.add_ext r.fresh
 have hcase:∀ b q,φ.add h.n p b=some q->(b=h.n∧q=p)∨(b≠h.n∧φ b=some q):=fun b q hq=>by
  by_cases hb:b=h.n
  ·subst hb;rw [Phi.add_at] at hq;cases hq;exact .inl ⟨rfl,rfl⟩
  ·rw [Phi.add_of hb] at hq;exact .inr ⟨hb,hq⟩
 refine ⟨fun b q hq=>?_,fun b c q s hq hs ab ac hbc=>?_,fun b c q s hb hc hq hs ac=>?_,fun b q hq=>?_,fun b q hq=>?_,fun b hb=>?_,Nat.le_succ_of_le r.le⟩
 ·rw [H.add_blk,H.add_lo]
  rcases hcase b q hq with ⟨rfl,rfl⟩ | ⟨hb,hq⟩
  ·rw [if_pos rfl];exact hx
  ·rw [if_neg hb];exact (r.blk b q hq).ext hext
 ·rw [H.add_blk] at ab ac
  rcases hcase b q hq with ⟨rfl,rfl⟩ | ⟨hb,hq2⟩ <;> rcases hcase c s hs with ⟨rfl,rfl⟩ | ⟨hc,hs2⟩
  ·rfl
  ·exact absurd hbc.symm (hne c s hs2)
  ·exact absurd hbc (hne b q hq2)
  ·rw [if_neg hb] at ab;rw [if_neg hc] at ac
   exact r.inj b c q s hq2 hs2 ab ac hbc
 ·rw [H.add_blk] at ac
  rw [H.add_lo] at hb hc;rcases hcase b q hq with ⟨rfl,rfl⟩ | ⟨hb',hq2⟩ <;> rcases hcase c s hs with ⟨rfl,rfl⟩ | ⟨hc',hs2⟩
  ·omega
  ·have:=r.dom c s hs2;omega
  ·exact hne b q hq2
  ·rw [if_neg hc'] at ac
   exact r.low b c q s hb hc hq2 hs2 ac
 ·rw [H.add_n]
  rcases hcase b q hq with ⟨rfl,rfl⟩ | ⟨_,hq⟩
  ·exact Nat.lt_succ_self _
  ·exact Nat.lt_succ_of_lt (r.dom b q hq)
 ·rcases hcase b q hq with ⟨rfl,rfl⟩ | ⟨_,hq⟩
  ·exact hp'
  ·exact r.inw b q hq
 ·rw [H.add_n] at hb
  rw [H.add_blk,if_neg (by omega)];exact r.new b (by omega)
theorem Rel.skip (r:Rel φ h w) (x:Blk):Rel φ (h.add x) w:=by
 have hb:∀ b q,φ b=some q->(h.add x).blk b=h.blk b:=fun b q hq=>by
  rw [H.add_blk,if_neg];have:=r.dom b q hq;omega
 refine ⟨fun b q hq=>by rw [hb b q hq];exact r.blk b q hq,fun b c q s hq hs ab ac=>?_,fun b c q s h1 h2 hq hs ac=>?_,fun b q hq=>Nat.lt_succ_of_lt (r.dom b q hq),r.inw,fun b h1=>?_,Nat.le_succ_of_le r.le⟩
 ·rw [hb b q hq] at ab;rw [hb c s hs] at ac;exact r.inj b c q s hq hs ab ac
 ·rw [hb c s hs] at ac;exact r.low b c q s h1 h2 hq hs ac
 ·rw [H.add_n] at h1
  rw [H.add_blk,if_neg (by omega)];exact r.new b (by omega)
theorem Stp.takein {φ0:Phi} {h0:H} {w0:World} (s:Stp φ0 h0 w0 φ h w) (r0:Rel φ0 h0 w0) (r:Rel φ h w) {p:Pl} (hp:w0.heap.size<=p.b) (x:Blk):Stp φ0 h0 w0 (φ.add h.n p) (h.add x) w:=by
 refine ⟨s.ext.trans (Phi.add_ext r.fresh),Nat.le_succ_of_le s.n,s.lo,fun b hb=>?_,fun b hb hq=>?_,s.ch,fun b q hq=>?_⟩
 ·rw [H.add_blk,if_neg (by have:=s.n;have:=r0.le;omega)];exact s.old b hb
 ·rw [H.add_blk,if_neg (by have:=s.n;omega)] at hq;exact s.gone b hb hq
 ·by_cases hb:b=h.n
  ·subst hb;rw [Phi.add_at] at hq;cases hq;exact .inr ⟨s.n,.inl hp⟩
  ·rw [Phi.add_of hb] at hq;exact s.dom b q hq
theorem Stp.skip {φ0:Phi} {h0:H} {w0:World} (s:Stp φ0 h0 w0 φ h w) (r0:Rel φ0 h0 w0) (x:Blk):Stp φ0 h0 w0 φ (h.add x) w:=by
 refine ⟨s.ext,Nat.le_succ_of_le s.n,s.lo,fun b hb=>?_,fun b hb hq=>?_,s.ch,s.dom⟩
 ·rw [H.add_blk,if_neg (by have:=s.n;have:=r0.le;omega)];exact s.old b hb
 ·rw [H.add_blk,if_neg (by have:=s.n;omega)] at hq;exact s.gone b hb hq
end
end Go.Proofs.YtcilaocknhphnaaGreat.Ev
namespace Go.Proofs.YtcilaocknhphnaaGreat.Ev
section
variable {P : Program} {φ : Phi} {h h' : H} {w w' : World}
theorem ob_one {α:Type} {x:Option α} {f:α->V2} {v:AV} (e:ob .no x f=.one v h'):∃ a,x=some a∧f a=.one v h':=by
 cases x with
 | none=>cases e
 | some a=>exact ⟨a,rfl,e⟩
theorem stepC_cases {ops:Array Oper} {o:Oper} {call:CallF} {tm:Tm} {v:AV} (hl:leaves (stepC P ops o) call tm h=.one v h'):
  (o.guard=none∧leaves (opC P o.op) call tm h=.one v h')∨∃ g want d,o.guard=some (g,want)∧(ops[g]?).bind (·.dst)=some d ∧
   ((isG want ((acc AV.bad d).run tm)=some true∧leaves (opC P o.op) call tm h=.one v h')∨(isG want ((acc AV.bad d).run tm)=some false∧v=.bad∧h'=h)):=by
 cases hg:o.guard with
 | none=>
  have:stepC P ops o=opC P o.op:=by unfold stepC;rw [hg]
  rw [this] at hl;exact .inl ⟨rfl,hl⟩
 | some gw=>
  obtain ⟨g,want⟩:=gw;cases hd:(ops[g]?).bind (·.dst) with
  | none=>
   have:stepC P ops o=failC:=by unfold stepC;rw [hg];simp only [hd]
   rw [this] at hl;cases hl
  | some d=>
   have:stepC P ops o=guardC d want (opC P o.op):=by unfold stepC;rw [hg];simp only [hd]
   rw [this,leaves_guard] at hl;obtain ⟨q,hq,hl⟩:=ob_one hl;refine .inr ⟨g,want,d,rfl,hd,?_⟩;cases q with
   | true=>exact .inl ⟨hq,hl⟩
   | false=>cases hl;exact .inr ⟨hq,rfl,rfl⟩
theorem pr_heap {o:Oper} {c:OpC} (hp:PrOk P o c) {call:CallF} {tm:Tm} {v:AV} (hl:leaves c call tm h=.one v h'):h'=h:=by
 cases c with
 | mv f=>cases hl;rfl
 | pr f=>obtain ⟨a,_,hl⟩:=ob_one hl;cases hl;rfl
 | rd f=>exact hp.elim
 | ge f=>exact hp.elim
theorem rd_heap {o:Oper} {c:OpC} (hp:RdOk P o c) {call:CallF} {tm:Tm} {v:AV} (hl:leaves c call tm h=.one v h'):h'=h:=by
 cases c with
 | mv f=>cases hl;rfl
 | pr f=>obtain ⟨a,_,hl⟩:=ob_one hl;cases hl;rfl
 | rd f=>obtain ⟨a,_,hl⟩:=ob_one hl;cases hl;rfl
 | ge f=>exact False.elim hp
theorem still_heap {ops:Array Oper} {o:Oper} (hk:kindO o.op=0∨kindO o.op=2) {call:CallF} {tm:Tm} {v:AV} (hl:leaves (stepC P ops o) call tm h=.one v h'):h'=h:=by
 have op:leaves (opC P o.op) call tm h=.one v h'->h'=h:=fun hl=>by
  rcases hk with hk | hk
  ·exact pr_heap (kind_pure hk) hl
  ·exact rd_heap (kind_read hk) hl
 rcases stepC_cases hl with ⟨_,hl⟩ | ⟨_,_,_,_,_,⟨_,hl⟩ | ⟨_,_,e⟩⟩
 ·exact op hl
 ·exact op hl
 ·exact e
theorem alloc_heap {ops:Array Oper} {o:Oper} (hk:kindO o.op=1) {call:CallF} {tm:Tm} {v:AV} (hl:leaves (stepC P ops o) call tm h=.one v h'):h'=h∨∃ x,h'=h.add x:=by
 have op:leaves (opC P o.op) call tm h=.one v h'->h'=h∨∃ x,h'=h.add x:=fun hl=>by
  rcases kind_alloc (P:=P) hk with hp | ⟨f,hf,al,h1,_⟩
  ·exact .inl (pr_heap hp hl)
  ·rw [hf] at hl
   have hl:f call tm h=.one v h':=hl;rw [h1] at hl;obtain ⟨x,_,hl⟩:=ob_one hl;cases hl;exact .inr ⟨_,rfl⟩
 rcases stepC_cases hl with ⟨_,hl⟩ | ⟨_,_,_,_,_,⟨_,hl⟩ | ⟨_,_,e⟩⟩
 ·exact op hl
 ·exact op hl
 ·exact .inl e
theorem order_ok {N:Nat} {ops:Array Oper} {call:CallF} (hc:CallOk P call) (S:Nat->Tr) {m:Nat} (hs:∀ i,i < m->∃ o,ops[i]? = some o∧StepTr P N ops call o (S i) (S (i+1))) {φ:Phi} {a:Act} {w:World} (ht:TmRel φ (S 0).tm a.tmps) (hN:N<=a.tmps.size) (hr:Rel φ (S 0).h w) {j:Nat} (hj:j < m):
  (S j).h.n<=(S (j+1)).h.n∧(S (j+1)).h.lo=(S j).h.lo:=by
 obtain ⟨ψ,a1,w1,t1,n1,r1⟩:=bound_ok hc S j m hs (by omega) φ a w ht hN hr;obtain ⟨o,ho,st⟩:=hs j hj
 have:=step_ok (r:=none) (n:=0) (ops:=ops) (o:=o) (K:=fun v h'=>v=(S j).v∧h'=(S (j+1)).h) (next:=fun _ _=>(S j).h.n<=(S (j+1)).h.n∧(S (j+1)).h.lo=(S j).h.lo)
  (Q:=fun _ _ _=>False) hc t1 r1 (by rw [st.tell];exact ⟨rfl,rfl⟩) (by
   rintro v h' χ w' cv ⟨rfl,rfl⟩ hv hr' hs';exact ⟨hs'.n,hs'.lo⟩)
 split at this
 ·obtain ⟨a',w',q⟩:=wpIn_exists this
  exact q
 ·exact this.2
end
end Go.Proofs.YtcilaocknhphnaaGreat.Ev
namespace Go.Proofs.YtcilaocknhphnaaGreat.Ev
section
variable {P : Program}
def join (φ θ:Phi):Phi:=fun b=>match φ b with
 | some p=>some p
 | none=>θ b
theorem join_l {φ θ:Phi} {b:Nat} {p:Pl} (h:φ b=some p):join φ θ b=some p:=by unfold join;rw [h]
theorem join_r {φ θ:Phi} {b:Nat} (h:φ b=none):join φ θ b=θ b:=by unfold join;rw [h]
theorem join_cases {φ θ:Phi} {b:Nat} {p:Pl} (h:join φ θ b=some p):φ b=some p∨(φ b=none∧θ b=some p):=by
 cases e:φ b with
 | some q=>rw [join_l e] at h;exact .inl h
 | none=>rw [join_r e] at h;exact .inr ⟨rfl,h⟩
structure Reg (P : Program) (N : Nat) (ops : Array Oper) (call : CallF) (S : Nat → Tr) (φ0 : Phi) (w0 : World) (a0 : Act) : Prop where
  cok : CallOk P call
  step : ∀ i, i < ops.size → ∃ o, ops[i]? = some o ∧ StepTr P N ops call o (S i) (S (i + 1))
  tm : TmRel φ0 (S 0).tm a0.tmps
  size : N ≤ a0.tmps.size
  rel : Rel φ0 (S 0).h w0
structure Inv (N : Nat) (ops : Array Oper) (S : Nat → Tr) (φ0 : Phi) (w0 : World) (a0 : Act) (D : Array Bool) (a : Act) (w : World) (g : Nat) (φ θ : Phi) : Prop where
  gm : g ≤ ops.size
  las : g = 0 ∨ ∃ o, ops[g - 1]? = some o ∧ kindO o.op = 3
  eff : ∀ j o, ops[j]? = some o → kindO o.op = 3 → (D.getD j false = true ↔ j < g)
  all : ∀ j o, ops[j]? = some o → kindO o.op = 1 → j < g → D.getD j false = true
  rel : Rel φ (S g).h w
  th : ∀ b p, θ b = some p → (S g).h.n ≤ b ∧ p.b < w.heap.size ∧ w0.heap.size ≤ p.b ∧ (∀ b' p', φ b' = some p' → p'.b ≠ p.b) ∧ ∃ j o x ob, g ≤ j ∧ ops[j]? = some o ∧ kindO o.op = 1 ∧ D.getD j false = true ∧ (S j).h.n = b ∧ (S (j + 1)).h = (S j).h.add x ∧
    w.heap[p.b]? = some ob ∧ ∀ ψ lo w', Ext (cut (join φ θ) b) ψ → ψ b = some p → w'.heap[p.b]? = some ob → BlkOk ψ lo w' p x
  inj : ∀ b b' p p', θ b = some p → θ b' = some p' → p.b = p'.b → b = b'
  tmp : ∀ t j, j ≤ ops.size → (∀ i o, ops[i]? = some o → o.dst = some t → (D.getD i false = true ↔ i < j)) → RelT (join φ θ) ((acc AV.bad t).run (S j).tm) (a.tmps.getD t undef)
  size : N ≤ a.tmps.size ∧ a.tmps.size = a0.tmps.size
  dfr : a.defers = a0.defers
  stp : Stp φ0 (S 0).h w0 φ (S g).h w
section
variable {N : Nat} {ops : Array Oper} {call : CallF} {S : Nat → Tr} {φ0 : Phi} {w0 w : World} {a0 a : Act} {D : Array Bool} {g : Nat} {φ θ : Phi}
theorem Reg.mono (R:Reg P N ops call S φ0 w0 a0) {i j:Nat} (hij:i<=j) (hj:j<=ops.size):(S i).h.n<=(S j).h.n:=by
 induction j with
 | zero=>
  have:i=0:=by omega
  subst this;exact Nat.le_refl _
 | succ j ih=>
  by_cases e:i=j+1
  ·subst e;exact Nat.le_refl _
  ·exact Nat.le_trans (ih (by omega) (by omega)) (order_ok R.cok S R.step R.tm R.size R.rel (by omega)).1
theorem Reg.bd (R:Reg P N ops call S φ0 w0 a0) {j:Nat} (hj:j<=ops.size) (t:Nat):Bd (S j).h.n ((acc AV.bad t).run (S j).tm):=by
 obtain ⟨ψ,a1,w1,t1,n1,r1⟩:=bound_ok R.cok S j ops.size R.step hj φ0 a0 w0 R.tm R.size R.rel;exact bd_at t1 r1 t
theorem cut_join (I:Inv N ops S φ0 w0 a0 D a w g φ θ):cut (join φ θ) (S g).h.n=φ:=by
 funext b
 unfold cut;split
 ·rename_i hb
  cases e:φ b with
  | some p=>exact join_l e
  | none=>
   rw [join_r e];cases e2:θ b with
   | none=>rfl
   | some p=>have:=(I.th b p e2).1;omega
 ·rename_i hb
  cases e:φ b with
  | none=>rfl
  | some p=>exact absurd (I.rel.dom b p e) hb
theorem cut_add {J:Phi} {n:Nat} {p:Pl} (h:J n=some p):cut J (n+1)=(cut J n).add n p:=by
 funext b
 unfold cut Phi.add;by_cases e:b=n
 ·subst e;rw [if_pos (by omega),if_pos rfl,h]
 ·rw [if_neg e]
  by_cases hb:b < n
  ·rw [if_pos (by omega)];exact (if_pos hb).symm
  ·rw [if_neg (by omega)];exact (if_neg hb).symm
theorem cut_none {J:Phi} {n:Nat} (h:J n=none):cut J (n+1)=cut J n:=by
 funext b
 unfold cut;by_cases e:b=n
 ·subst e;rw [if_pos (by omega),if_neg (by omega),h]
 ·by_cases hb:b < n
  ·rw [if_pos (by omega),if_pos hb]
  ·rw [if_neg (by omega),if_neg hb]
theorem kind_le (x:Op):kindO x=0∨kindO x=1∨kindO x=2∨kindO x=3:=by
 cases x <;> first | exact .inl rfl | exact .inr (.inl rfl) | exact .inr (.inr (.inl rfl)) | exact .inr (.inr (.inr rfl)) | skip
 rename_i c;show kindC c=0∨kindC c=1∨kindC c=2∨kindC c=3;unfold kindC;cases c.callee <;> first | exact .inr (.inr (.inr rfl)) | skip
 rename_i b;cases b <;> first | exact .inl rfl | exact .inr (.inr (.inl rfl)) | exact .inr (.inr (.inr rfl))
theorem cutRel (R:Reg P N ops call S φ0 w0 a0) (I:Inv N ops S φ0 w0 a0 D a w g φ θ):∀ d,g+d<=ops.size->(∀ j o,g<=j->j < g+d->ops[j]? = some o->kindO o.op≠3) ->
  Rel (cut (join φ θ) (S (g+d)).h.n) (S (g+d)).h w∧Stp φ0 (S 0).h w0 (cut (join φ θ) (S (g+d)).h.n) (S (g+d)).h w
 | 0,_,_=>by rw [Nat.add_zero,cut_join I];exact ⟨I.rel,I.stp⟩
 | d+1,hd,hk=>by
  obtain ⟨r,s⟩:=cutRel R I d (by omega) fun j o h1 h2=>hk j o h1 (by omega);obtain ⟨o,ho,st⟩:=R.step (g+d) (by omega);have h3:=hk (g+d) o (by omega) (by omega) ho;rw [<- Nat.add_assoc]
  have grow:(S (g+d+1)).h=(S (g+d)).h∨∃ x,(S (g+d+1)).h=(S (g+d)).h.add x:=by
   rcases kind_le o.op with h | h | h | h
   ·exact .inl (still_heap (.inl h) st.tell)
   ·exact alloc_heap h st.tell
   ·exact .inl (still_heap (.inr h) st.tell)
   ·exact absurd h h3
  rcases grow with e | ⟨x,e⟩
  ·rw [e];exact ⟨r,s⟩
  ·rw [e,H.add_n]
   cases hJ:join φ θ (S (g+d)).h.n with
   | none=>rw [cut_none hJ];exact ⟨r.skip x,s.skip R.rel x⟩
   | some p=>
    rw [cut_add hJ]
    have hφ:φ (S (g+d)).h.n=none:=by
     cases q:φ (S (g+d)).h.n with
     | none=>rfl
     | some q'=>have:=I.rel.dom _ _ q;have:=R.mono (i:=g) (j:=g+d) (by omega) (by omega);omega
    rw [join_r hφ] at hJ;obtain ⟨t1,t2,t3,t4,j,o',x',ob,u1,u2,u3,u4,u5,u6,u7,u8⟩:=I.th _ _ hJ;have hjs:=(Array.getElem?_eq_some_iff.1 u2).1
    have hj:j=g+d:=by
     rcases Nat.lt_trichotomy j (g+d) with q | q | q
     ·have:=R.mono (i:=j+1) (j:=g+d) (by omega) (by omega)
      rw [u6,H.add_n,u5] at this;omega
     ·exact q
     ·have:=R.mono (i:=g+d+1) (j:=j) (by omega) (by omega)
      rw [e,H.add_n,u5] at this;omega
    subst hj
    have hx:x'=x:=by
     have h1:=H.add_blk (S (g+d)).h x (S (g+d)).h.n;have h2:=H.add_blk (S (g+d)).h x' (S (g+d)).h.n;rw [if_pos rfl] at h1 h2;rw [<- h1,<- h2,<- e,<- u6]
    subst hx
    have hne:∀ b q,cut (join φ θ) (S (g+d)).h.n b=some q->q.b≠p.b:=by
     intro b q hq;obtain ⟨c1,c2⟩:=cut_some hq;rcases join_cases c2 with c2 | ⟨_,c2⟩
     ·exact t4 b q c2
     ·intro e
      have:=I.inj _ _ _ _ c2 hJ e;omega
    exact ⟨r.takein hne t2 (u8 _ _ _ (Phi.add_ext r.fresh) (Phi.add_at _ _ _) u7),s.takein R.rel r t3 x'⟩
end
end
end Go.Proofs.YtcilaocknhphnaaGreat.Ev
namespace Go.Proofs.YtcilaocknhphnaaGreat.Ev
section
variable {P : Program}
theorem isZ_land {a b t:Nat} (h:isZ (Nat.land a b)=true) (ha:Nat.testBit a t=true) (hb:Nat.testBit b t=true):False:=by
 have e:a &&& b=0:=Nat.eq_of_beq_eq_true h;have:=congrArg (fun n=>Nat.testBit n t) e;simp [Nat.testBit_and,ha,hb] at this
theorem tmpsO_bit {t:Nat}:∀ {l:List Operand},Operand.tmp t∈l->Nat.testBit (tmpsO l) t=true
 | x :: l,hm=>by
  rcases List.mem_cons.1 hm with rfl | hl
  ·show Nat.testBit (2 ^ t ||| tmpsO l) t=true
   rw [Nat.testBit_or,Nat.testBit_two_pow_self];rfl
  ·have ih:=tmpsO_bit hl
   cases x with
   | tmp u=>
    show Nat.testBit (2 ^ u ||| tmpsO l) t=true;rw [Nat.testBit_or,ih,Bool.or_true]
   | const v=>exact ih
   | global v=>exact ih
   | func v=>exact ih
theorem maskD_bit {t:Nat}:Nat.testBit (maskD (some t)) t=true:=Nat.testBit_two_pow_self
def Uses (ops:Array Oper) (o:Oper) (t:Tmp):Prop:=Operand.tmp t∈o.op.operands∨∃ g want,o.guard=some (g,want)∧(ops[g]?).bind (·.dst)=some t
theorem use_bit {ops:Array Oper} {o:Oper} {t:Tmp} {b:Nat} (h:Uses ops o t):Nat.testBit (markOf P ops o b).use t=true:=by
 show Nat.testBit (guardM ops o.guard ||| tmpsO o.op.operands.toList) t=true;rw [Nat.testBit_or];rcases h with h | ⟨g,want,h1,h2⟩
 ·rw [tmpsO_bit (by simpa using h),Bool.or_true]
 ·have:guardM ops o.guard=maskD (some t):=by rw [h1];show maskD ((ops[g]?).bind (·.dst))=_;exact congrArg maskD h2
  rw [this,maskD_bit];rfl
theorem free_parts {x y:DI} (h:freeD x y=true):isZ (Nat.land x.dst (Nat.lor y.use y.dst))=true∧isZ (Nat.land y.dst x.use)=true∧(y.kind=3->x.kind≠3∧x.kind≠1):=by
 obtain ⟨h1,h⟩:=andB_iff.1 h;obtain ⟨h2,h⟩:=andB_iff.1 h;refine ⟨h1,h2,fun hk=>⟨fun q=>?_,fun q=>?_⟩⟩
 ·rw [hk,q] at h;cases h
 ·rw [hk,q] at h;cases h
section
variable {ops : Array Oper} {R : List DI} {D : Array Bool}
theorem use_cut (hR:marksD P ops ops.toList [] 0=some R) (hD:Shut ops D) {j:Nat} {o:Oper} (ho:ops[j]? = some o) (hj:D.getD j false=false) (hn:Next' D o) {t:Tmp} (hu:Uses ops o t):
  ∀ i o',ops[i]? = some o'->o'.dst=some t->(D.getD i false=true↔i < j):=by
 intro i o' hi ht;have hjs:=(Array.getElem?_eq_some_iff.1 ho).1;have his:=(Array.getElem?_eq_some_iff.1 hi).1;obtain ⟨bj,mj⟩:=mark_at hR ho;obtain ⟨bi,mi⟩:=mark_at hR hi;have hdst:Nat.testBit (markOf P ops o' bi).dst t=true:=by show Nat.testBit (maskD o'.dst) t=true;rw [ht];exact maskD_bit
 rcases Nat.lt_trichotomy i j with q | q | q
 ·refine ⟨fun _=>q,fun _=>?_⟩
  rcases free_ok hR q hjs mi mj with hb | hf
  ·exact before_ok hR hD j o _ ho mj (.inr hn) i hb
  ·exact (isZ_land (free_parts hf).1 hdst (by
    show Nat.testBit ((markOf P ops o bj).use ||| (markOf P ops o bj).dst) t=true;rw [Nat.testBit_or,use_bit hu];rfl)).elim
 ·subst q;rw [hj];simp
 ·refine ⟨fun hd=>?_,fun h=>by omega⟩
  rcases free_ok hR q his mj mi with hb | hf
  ·have:=before_ok hR hD i o' _ hi mi (.inl hd) j hb
   rw [hj] at this;cases this
  ·exact (isZ_land (free_parts hf).2.1 hdst (use_bit hu)).elim
theorem dst_cut (hR:marksD P ops ops.toList [] 0=some R) (hD:Shut ops D) {j:Nat} {o:Oper} (ho:ops[j]? = some o) (hj:D.getD j false=false) (hn:Next' D o) {t:Tmp} (hu:o.dst=some t):
  ∀ i o',ops[i]? = some o'->o'.dst=some t->(D.getD i false=true↔i < j):=by
 intro i o' hi ht;have hjs:=(Array.getElem?_eq_some_iff.1 ho).1;have his:=(Array.getElem?_eq_some_iff.1 hi).1;obtain ⟨bj,mj⟩:=mark_at hR ho;obtain ⟨bi,mi⟩:=mark_at hR hi;have hdst:Nat.testBit (markOf P ops o' bi).dst t=true:=by show Nat.testBit (maskD o'.dst) t=true;rw [ht];exact maskD_bit
 have hdst':Nat.testBit (markOf P ops o bj).dst t=true:=by show Nat.testBit (maskD o.dst) t=true;rw [hu];exact maskD_bit
 rcases Nat.lt_trichotomy i j with q | q | q
 ·refine ⟨fun _=>q,fun _=>?_⟩
  rcases free_ok hR q hjs mi mj with hb | hf
  ·exact before_ok hR hD j o _ ho mj (.inr hn) i hb
  ·exact (isZ_land (free_parts hf).1 hdst (by
    show Nat.testBit ((markOf P ops o bj).use ||| (markOf P ops o bj).dst) t=true;rw [Nat.testBit_or,hdst',Bool.or_true])).elim
 ·subst q;rw [hj];simp
 ·refine ⟨fun hd=>?_,fun h=>by omega⟩
  rcases free_ok hR q his mj mi with hb | hf
  ·have:=before_ok hR hD i o' _ hi mi (.inl hd) j hb
   rw [hj] at this;cases this
  ·exact (isZ_land (free_parts hf).1 hdst' (by
    show Nat.testBit ((markOf P ops o' bi).use ||| (markOf P ops o' bi).dst) t=true;rw [Nat.testBit_or,hdst,Bool.or_true])).elim
end
end
end Go.Proofs.YtcilaocknhphnaaGreat.Ev
namespace Go.Proofs.YtcilaocknhphnaaGreat.Ev
section
variable {P : Program} {N : Nat} {ops : Array Oper} {call : CallF} {S : Nat → Tr} {φ0 : Phi} {w0 w : World} {a0 a : Act} {D : Array Bool} {g : Nat} {φ θ : Phi}
theorem putC_acc {dst:Option Tmp} {tm:Tm} {v:AV} {t:Tmp}:(acc AV.bad t).run ((putC dst).run tm v)=if dst=some t then v else (acc AV.bad t).run tm:=by
 cases dst with
 | none=>rfl
 | some d=>
  show (acc AV.bad t).run ((upd AV.bad d).run tm v)=_;rw [acc_upd];by_cases e:t=d
  ·subst e;rw [if_pos rfl,if_pos rfl]
  ·rw [if_neg e,if_neg (fun q=>e (by cases q;rfl))]
theorem Reg.kept (R:Reg P N ops call S φ0 w0 a0) {t:Tmp}:∀ d j,j+d<=ops.size->(∀ i o,j<=i->i < j+d->ops[i]? = some o->o.dst≠some t)->(acc AV.bad t).run (S (j+d)).tm=(acc AV.bad t).run (S j).tm
 | 0,_,_,_=>rfl
 | d+1,j,hd,hn=>by
  obtain ⟨o,ho,st⟩:=R.step (j+d) (by omega);rw [<- Nat.add_assoc,st.tm,putC_acc,if_neg (hn (j+d) o (by omega) (by omega) ho)];exact Reg.kept R d j (by omega) fun i o h1 h2=>hn i o h1 (by omega)
theorem set_getD {j i:Nat} (hj:j < D.size):(D.setIfInBounds j true).getD i false=if i=j then true else D.getD i false:=by
 rw [Array.getD_eq_getD_getElem?,Array.getElem?_setIfInBounds,Array.getD_eq_getD_getElem?];by_cases e:i=j
 ·subst e;rw [if_pos rfl,if_pos hj,if_pos rfl];rfl
 ·rw [if_neg (fun q=>e q.symm),if_neg e]
theorem tmp_put (R:Reg P N ops call S φ0 w0 a0) {L:List DI} (hL:marksD P ops ops.toList [] 0=some L) (hD:Shut ops D) (hds:D.size=ops.size) {J J':Phi} (hJ:Ext J J') {j:Nat} {o:Oper} (ho:ops[j]? = some o) (hj:D.getD j false=false) (hn:Next' D o)
  (hN:N<=a.tmps.size) {c:Value} (hv:RelT J' (S j).v c)
  (ht:∀ t k,k<=ops.size->(∀ i o,ops[i]? = some o->o.dst=some t->(D.getD i false=true↔i < k))->RelT J ((acc AV.bad t).run (S k).tm) (a.tmps.getD t undef)):
  ∀ t k,k<=ops.size->(∀ i o,ops[i]? = some o->o.dst=some t->((D.setIfInBounds j true).getD i false=true↔i < k))->RelT J' ((acc AV.bad t).run (S k).tm) ((a.put o.dst c).tmps.getD t undef):=by
 intro t k hk hcut;have hjs:=(Array.getElem?_eq_some_iff.1 ho).1;obtain ⟨o2,ho2,st⟩:=R.step j hjs;rw [ho] at ho2;cases ho2;by_cases e:o.dst=some t
 ·have hjk:j < k:=(hcut j o ho e).1 (by rw [set_getD (by omega),if_pos rfl])
  have hkeep:=R.kept (t:=t) (k - (j+1)) (j+1) (by omega) fun i o' h1 h2 hi hd=>by
   have:=(hcut i o' hi hd).2 (by omega);rw [set_getD (by omega),if_neg (by omega)] at this;have:=(dst_cut hL hD ho hj hn e i o' hi hd).1 this;omega
  rw [show j+1+(k - (j+1))=k by omega] at hkeep;rw [hkeep,st.tm,putC_acc,if_pos e];have hd:=st.dst;rw [e] at hd ⊢;have hd:Nat.blt t N=true:=hd;rw [Nat.blt_eq] at hd;show RelT J' (S j).v ((a.tmps.setIfInBounds t c).getD t undef);rw [Array.getD_eq_getD_getElem?,Array.getElem?_setIfInBounds,if_pos rfl,if_pos (by omega)];exact hv
 ·have hval:(a.put o.dst c).tmps.getD t undef=a.tmps.getD t undef:=by
   cases hd:o.dst with
   | none=>rfl
   | some d=>
    show (a.tmps.setIfInBounds d c).getD t undef=_;rw [Array.getD_eq_getD_getElem?,Array.getElem?_setIfInBounds,if_neg (fun q=>e (by rw [hd,q])),<- Array.getD_eq_getD_getElem?]
  rw [hval];refine (ht t k hk fun i o' hi hd=>?_).ext hJ;have:=hcut i o' hi hd;rw [set_getD (by omega)] at this;by_cases q:i=j
  ·subst q;rw [ho] at hi;cases hi;exact absurd hd e
  ·rw [if_neg q] at this;exact this
end
end Go.Proofs.YtcilaocknhphnaaGreat.Ev
namespace Go.Proofs.YtcilaocknhphnaaGreat.Ev
section
variable {P : Program} {N : Nat} {ops : Array Oper} {call : CallF} {S : Nat → Tr} {φ0 : Phi} {w0 w : World} {a0 a : Act} {D : Array Bool} {g : Nat} {φ θ : Phi}
theorem ops_rel (I:Inv N ops S φ0 w0 a0 D a w g φ θ) {L:List DI} (hL:marksD P ops ops.toList [] 0=some L) (hD:Shut ops D) {j:Nat} {o:Oper} (ho:ops[j]? = some o) (hj:D.getD j false=false) (hn:Next' D o):
  EvRel (join φ θ) (S j).tm a.eval o.op.operands:=by
 intro x hx;have hjs:=(Array.getElem?_eq_some_iff.1 ho).1;cases x with
 | tmp t=>exact I.tmp t j (by omega) (use_cut hL hD ho hj hn (.inl hx))
 | const v=>exact ofV_relT v
 | global v=>exact .one (.junk _)
 | func f=>exact RelS.toT (.fn .nil .nil)
theorem guard_rel (I:Inv N ops S φ0 w0 a0 D a w g φ θ) {L:List DI} (hL:marksD P ops ops.toList [] 0=some L) (hD:Shut ops D) {j:Nat} {o:Oper} (ho:ops[j]? = some o) (hj:D.getD j false=false) (hn:Next' D o)
  {gg:Nat} {want q:Bool} {d:Tmp} (hg:o.guard=some (gg,want)) (hd:(ops[gg]?).bind (·.dst)=some d) (hq:isG want ((acc AV.bad d).run (S j).tm)=some q):Region.wanted o (yielded ops a.tmps)=q:=by
 have hjs:=(Array.getElem?_eq_some_iff.1 ho).1;have hr:=I.tmp d j (by omega) (use_cut hL hD ho hj hn (.inr ⟨gg,want,hg,hd⟩));unfold Region.wanted yielded;rw [hg];simp only [hd,Option.bind_some];generalize (acc AV.bad d).run (S j).tm=x at hr hq;cases x <;> first | (cases hq;done) | skip
 case bad=>
  cases hq;have hr:=relT_bad hr;cases e:a.tmps[d]? with
  | none=>simp
  | some v=>
   rw [Array.getD_eq_getD_getElem?,e] at hr;have:v=undef:=hr;subst this;simp [undef]
 case bool b=>
  cases hq;rw [getD_some (relT_bool hr) (by simp [undef])];simp
theorem Inv.keep (R:Reg P N ops call S φ0 w0 a0) (I:Inv N ops S φ0 w0 a0 D a w g φ θ) {L:List DI} (hL:marksD P ops ops.toList [] 0=some L) (hD:Shut ops D) (hds:D.size=ops.size) {j:Nat} {o:Oper} (ho:ops[j]? = some o) (hj:D.getD j false=false) (hn:Next' D o)
  (hk:kindO o.op≠3) {c:Value} (hv:RelT (join φ θ) (S j).v c):Inv N ops S φ0 w0 a0 (D.setIfInBounds j true) (a.put o.dst c) w g φ θ:=by
 have hjs:=(Array.getElem?_eq_some_iff.1 ho).1;obtain ⟨o2,ho2,st⟩:=R.step j hjs;rw [ho] at ho2;cases ho2;have hset:∀ i,(D.setIfInBounds j true).getD i false=if i=j then true else D.getD i false:=fun i=>set_getD (by omega)
 refine ⟨I.gm,I.las,fun i o' hi h3=>?_,fun i o' hi h1 hg=>?_,I.rel,fun b p hb=>?_,I.inj,tmp_put R hL hD hds (Ext.refl _) ho hj hn I.size.1 hv I.tmp,?_,?_,I.stp⟩
 ·rw [hset]
  by_cases e:i=j
  ·subst e;rw [ho] at hi;cases hi;exact absurd h3 hk
  ·rw [if_neg e];exact I.eff i o' hi h3
 ·rw [hset]
  by_cases e:i=j
  ·rw [if_pos e]
  ·rw [if_neg e];exact I.all i o' hi h1 hg
 ·obtain ⟨t1,t2,t3,t4,i,o',x,ob,u1,u2,u3,u4,u5⟩:=I.th b p hb
  refine ⟨t1,t2,t3,t4,i,o',x,ob,u1,u2,u3,?_,u5⟩;rw [hset];by_cases e:i=j
  ·rw [if_pos e]
  ·rw [if_neg e];exact u4
 ·cases hd:o.dst with
  | none=>exact I.size
  | some d=>simpa [Act.put] using I.size
 ·cases hd:o.dst <;> exact I.dfr
theorem cut_ext {J:Phi} {n:Nat}:Ext (cut J n) J:=fun _ _ h=>(cut_some h).2
theorem cutRl (R:Reg P N ops call S φ0 w0 a0) (I:Inv N ops S φ0 w0 a0 D a w g φ θ) {k:Nat} (hg:g<=k) (hk:k<=ops.size) (hn:∀ j o,g<=j->j < k->ops[j]? = some o->kindO o.op≠3):Rl (join φ θ) (S k).h w:=by
 obtain ⟨d,rfl⟩:∃ d,k=g+d:=⟨k - g,by omega⟩;obtain ⟨r,_⟩:=cutRel R I d hk hn;intro b p hb;by_cases h:b < (S (g+d)).h.n
 ·exact (r.blk b p (cut_of h hb)).ext cut_ext
 ·rw [r.new b (by omega)];exact .gone
end
end Go.Proofs.YtcilaocknhphnaaGreat.Ev
namespace Go.Proofs.YtcilaocknhphnaaGreat.Ev
section
variable {P : Program} {N : Nat} {ops : Array Oper} {call : CallF} {S : Nat → Tr} {φ0 : Phi} {w0 w : World} {a0 a : Act} {D : Array Bool} {g : Nat} {φ θ : Phi}
theorem Reg.bdO (R:Reg P N ops call S φ0 w0 a0) {j:Nat} (hj:j<=ops.size) (x:Operand):Bd (S j).h.n ((opd x).run (S j).tm):=by
 cases x with
 | tmp t=>exact R.bd hj t
 | const v=>exact ⟨fun _=>none,v,fun b p h=>(by cases h),ofV_relT v⟩
 | global v=>exact ⟨fun _=>none,undef,fun b p h=>(by cases h),.one (.junk _)⟩
 | func f=>exact ⟨fun _=>none,.func (.func f) #[] #[],fun b p h=>(by cases h),RelS.toT (.fn .nil .nil)⟩
theorem ops_cut (R:Reg P N ops call S φ0 w0 a0) (I:Inv N ops S φ0 w0 a0 D a w g φ θ) {L:List DI} (hL:marksD P ops ops.toList [] 0=some L) (hD:Shut ops D) {j:Nat} {o:Oper} (ho:ops[j]? = some o) (hj:D.getD j false=false) (hn:Next' D o):
  EvRel (cut (join φ θ) (S j).h.n) (S j).tm a.eval o.op.operands:=fun x hx=>
 bd_T (ops_rel I hL hD ho hj hn x hx) (R.bdO (by have:=(Array.getElem?_eq_some_iff.1 ho).1;omega) x)
theorem Inv.make (R:Reg P N ops call S φ0 w0 a0) (I:Inv N ops S φ0 w0 a0 D a w g φ θ) {L:List DI} (hL:marksD P ops ops.toList [] 0=some L) (hD:Shut ops D) (hds:D.size=ops.size) {j:Nat} {o:Oper} (ho:ops[j]? = some o) (hj:D.getD j false=false) (hn:Next' D o)
  (hk:kindO o.op=1) {x:Blk} (hx:(S (j+1)).h=(S j).h.add x) {ob:Obj} {kk:Nat} {c:Value}
  (hcl:∀ ψ lo w',Ext (cut (join φ θ) (S j).h.n) ψ->ψ (S j).h.n=some ⟨w.heap.size,0,kk⟩->w'.heap[w.heap.size]? = some ob->RelT ψ (S j).v c∧BlkOk ψ lo w' ⟨w.heap.size,0,kk⟩ x):
  Inv N ops S φ0 w0 a0 (D.setIfInBounds j true) (a.put o.dst c) (w.alloc ob) g φ (θ.add (S j).h.n ⟨w.heap.size,0,kk⟩):=by
 have hjs:=(Array.getElem?_eq_some_iff.1 ho).1;have hset:∀ i,(D.setIfInBounds j true).getD i false=if i=j then true else D.getD i false:=fun i=>set_getD (by omega)
 have hjg:g<=j:=by
  rcases Nat.lt_or_ge j g with q | q
  ·have:=I.all j o ho hk q;rw [hj] at this;cases this
  ·exact q
 have hbn:(S g).h.n<=(S j).h.n:=R.mono hjg (by omega)
 have hφ:φ (S j).h.n=none:=by
  cases q:φ (S j).h.n with
  | none=>rfl
  | some q'=>have:=I.rel.dom _ _ q;omega
 have hθ:θ (S j).h.n=none:=by
  cases q:θ (S j).h.n with
  | none=>rfl
  | some p=>
   obtain ⟨t1,t2,t3,t4,i,o',x',ob',u1,u2,u3,u4,u5,u6,u7,u8⟩:=I.th _ _ q;have his:=(Array.getElem?_eq_some_iff.1 u2).1;rcases Nat.lt_trichotomy i j with e | e | e
   ·have:=R.mono (i:=i+1) (j:=j) (by omega) (by omega)
    rw [u6,H.add_n,u5] at this;omega
   ·subst e;rw [hj] at u4;cases u4
   ·have:=R.mono (i:=j+1) (j:=i) (by omega) (by omega)
    rw [hx,H.add_n,u5] at this;omega
 have hext:Ext (join φ θ) (join φ (θ.add (S j).h.n ⟨w.heap.size,0,kk⟩)):=by
  intro b p hb;rcases join_cases hb with e | ⟨e1,e2⟩
  ·exact join_l e
  ·rw [join_r e1,Phi.add_of (fun q=>by rw [q,hθ] at e2;cases e2)];exact e2
 have hat:join φ (θ.add (S j).h.n ⟨w.heap.size,0,kk⟩) (S j).h.n=some ⟨w.heap.size,0,kk⟩:=by rw [join_r hφ,Phi.add_at]
 have hcase:∀ b q,θ.add (S j).h.n ⟨w.heap.size,0,kk⟩ b=some q->(b=(S j).h.n∧q=⟨w.heap.size,0,kk⟩)∨(b≠(S j).h.n∧θ b=some q):=fun b q hq=>by
  by_cases hb:b=(S j).h.n
  ·subst hb;rw [Phi.add_at] at hq;cases hq;exact .inl ⟨rfl,rfl⟩
  ·rw [Phi.add_of hb] at hq;exact .inr ⟨hb,hq⟩
 have hcutx:∀ b,Ext (cut (join φ θ) b) (cut (join φ (θ.add (S j).h.n ⟨w.heap.size,0,kk⟩)) b):=fun b d p h=>by
  obtain ⟨h1,h2⟩:=cut_some h;exact cut_of h1 (hext _ _ h2)
 refine ⟨I.gm,I.las,fun i o' hi h3=>?_,fun i o' hi h1 hg=>?_,I.rel.still (by simp) fun k hk=>alloc_old hk,fun b p hb=>?_,fun b b' p p' hb hb' e=>?_,
  tmp_put R hL hD hds hext ho hj hn I.size.1 (hcl _ 0 (w.alloc ob) (cut_ext.trans hext) hat alloc_new).1 I.tmp,?_,?_,?_⟩
 ·rw [hset]
  by_cases e:i=j
  ·subst e;rw [ho] at hi;cases hi;rw [hk] at h3;cases h3
  ·rw [if_neg e];exact I.eff i o' hi h3
 ·rw [hset]
  by_cases e:i=j
  ·rw [if_pos e]
  ·rw [if_neg e];exact I.all i o' hi h1 hg
 ·rcases hcase b p hb with ⟨rfl,rfl⟩ | ⟨hne,hb⟩
  ·refine ⟨hbn,by simp,I.stp.ch.size,fun b' p' hp'=>?_,j,o,x,ob,hjg,ho,hk,by rw [hset,if_pos rfl],rfl,hx,alloc_new,fun ψ lo w' h1 h2 h3=>(hcl ψ lo w' (fun d p q=>h1 d p (hcutx _ d p q)) h2 h3).2⟩
   have:=I.rel.inw b' p' hp';show p'.b≠w.heap.size;omega
  ·obtain ⟨t1,t2,t3,t4,i,o',x',ob',u1,u2,u3,u4,u5,u6,u7,u8⟩:=I.th b p hb
   refine ⟨t1,by simp;omega,t3,t4,i,o',x',ob',u1,u2,u3,?_,u5,u6,(alloc_old t2).trans u7,fun ψ lo w' h1 h2 h3=>u8 ψ lo w' (fun d p q=>h1 d p (hcutx _ d p q)) h2 h3⟩;rw [hset];by_cases e:i=j
   ·rw [if_pos e]
   ·rw [if_neg e];exact u4
 ·rcases hcase b p hb with ⟨rfl,rfl⟩ | ⟨h1,hb⟩ <;> rcases hcase b' p' hb' with ⟨rfl,rfl⟩ | ⟨h2,hb'⟩
  ·rfl
  ·have:=(I.th _ _ hb').2.1
   simp at e;omega
  ·have:=(I.th _ _ hb).2.1
   simp at e;omega
  ·exact I.inj b b' p p' hb hb' e
 ·cases hd:o.dst with
  | none=>exact I.size
  | some d=>simpa [Act.put] using I.size
 ·cases hd:o.dst <;> exact I.dfr
 ·exact Stp.trans R.rel I.stp (Stp.defs (by simp) ⟨rfl,rfl,rfl⟩ fun k hk=>alloc_old hk)
end
end Go.Proofs.YtcilaocknhphnaaGreat.Ev
namespace Go.Proofs.YtcilaocknhphnaaGreat.Ev
section
variable {P : Program} {N : Nat} {ops : Array Oper} {call : CallF} {S : Nat → Tr} {φ0 : Phi} {w0 w : World} {a0 a : Act} {D : Array Bool} {g : Nat} {φ θ : Phi}
theorem effect_ahead {L:List DI} (hL:marksD P ops ops.toList [] 0=some L) (hD:Shut ops D) {j:Nat} {o:Oper} (ho:ops[j]? = some o) (hn:Next' D o) (hk:kindO o.op=3) {i:Nat} {o':Oper} (hi:ops[i]? = some o') (hij:i < j) (hk':kindO o'.op=3∨kindO o'.op=1):D.getD i false=true:=by
 have hjs:=(Array.getElem?_eq_some_iff.1 ho).1;obtain ⟨bj,mj⟩:=mark_at hL ho;obtain ⟨bi,mi⟩:=mark_at hL hi;rcases free_ok hL hij hjs mi mj with hb | hf
 ·exact before_ok hL hD j o _ ho mj (.inr hn) i hb
 ·obtain ⟨h1,h2⟩:=(free_parts hf).2.2 hk
  rcases hk' with h | h
  ·exact absurd h h1
  ·exact absurd h h2
theorem Inv.effect {w':World} (R:Reg P N ops call S φ0 w0 a0) (I:Inv N ops S φ0 w0 a0 D a w g φ θ) {L:List DI} (hL:marksD P ops ops.toList [] 0=some L) (hD:Shut ops D) (hds:D.size=ops.size) {j:Nat} {o:Oper} (ho:ops[j]? = some o) (hj:D.getD j false=false) (hn:Next' D o)
  (hk:kindO o.op=3) (hgj:g<=j) {ψ:Phi} {c:Value} (hv:RelT ψ (S j).v c) (hr:Rel ψ (S (j+1)).h w')
  (hs0:Stp φ0 (S 0).h w0 (cut (join φ θ) (S j).h.n) (S j).h w) (hr0:Rel (cut (join φ θ) (S j).h.n) (S j).h w) (hs:Stp (cut (join φ θ) (S j).h.n) (S j).h w ψ (S (j+1)).h w'):
  Inv N ops S φ0 w0 a0 (D.setIfInBounds j true) (a.put o.dst c) w' (j+1) ψ (fun b=>if (S (j+1)).h.n<=b then θ b else none):=by
 have hjs:=(Array.getElem?_eq_some_iff.1 ho).1;have hset:∀ i,(D.setIfInBounds j true).getD i false=if i=j then true else D.getD i false:=fun i=>set_getD (by omega)
 have hθ':∀ b p,(if (S (j+1)).h.n<=b then θ b else none)=some p->(S (j+1)).h.n<=b∧θ b=some p:=fun b p h=>by
  split at h
  ·exact ⟨by assumption,h⟩
  ·cases h
 have hlate:∀ b p,θ b=some p->(S j).h.n<=b->(S (j+1)).h.n<=b:=fun b p hb hle=>by
  obtain ⟨t1,t2,t3,t4,i,o',x',ob',u1,u2,u3,u4,u5,u6,u7,u8⟩:=I.th b p hb;have his:=(Array.getElem?_eq_some_iff.1 u2).1;rcases Nat.lt_trichotomy i j with e | e | e
  ·have:=R.mono (i:=i+1) (j:=j) (by omega) (by omega)
   rw [u6,H.add_n,u5] at this;omega
  ·subst e;rw [hj] at u4;cases u4
  ·have:=R.mono (i:=j+1) (j:=i) (by omega) (by omega)
   omega
 have hext:Ext (join φ θ) (join ψ (fun b=>if (S (j+1)).h.n<=b then θ b else none)):=by
  intro b p hb;by_cases h:b < (S j).h.n
  ·exact join_l (hs.ext _ _ (cut_of h hb))
  ·rcases join_cases hb with e | ⟨_,e⟩
   ·have:=I.rel.dom _ _ e;have:=R.mono hgj (by omega:j<=ops.size);omega
   ·have hl:=hlate b p e (by omega)
    have hψ:ψ b=none:=by
     cases q:ψ b with
     | none=>rfl
     | some q'=>have:=hr.dom _ _ q;omega
    rw [join_r hψ];show (if (S (j+1)).h.n<=b then θ b else none)=some p;rw [if_pos hl];exact e
 have hnw:∀ b p,θ b=some p->(S (j+1)).h.n<=b->¬ Wr (cut (join φ θ) (S j).h.n) (S j).h p.b:=by
  rintro b p hb hle ⟨b',p',_,hp',hpb,_⟩;obtain ⟨c1,c2⟩:=cut_some hp';have hm:=R.mono (i:=j) (j:=j+1) (by omega) (by omega);rcases join_cases c2 with e | ⟨_,e⟩
  ·exact (I.th b p hb).2.2.2.1 b' p' e hpb
  ·have:=I.inj _ _ _ _ e hb hpb
   omega
 have hcutx:∀ b,Ext (cut (join φ θ) b) (cut (join ψ (fun b=>if (S (j+1)).h.n<=b then θ b else none)) b):=fun b d p h=>by
  obtain ⟨h1,h2⟩:=cut_some h;exact cut_of h1 (hext _ _ h2)
 refine ⟨hjs,.inr ⟨o,by simpa using ho,hk⟩,fun i o' hi h3=>?_,fun i o' hi h1 hg=>?_,hr,fun b p hb=>?_,fun b b' p p' hb hb' e=>I.inj b b' p p' (hθ' b p hb).2 (hθ' b' p' hb').2 e,
  tmp_put R hL hD hds hext ho hj hn I.size.1 (hv.ext fun b p h=>join_l h) I.tmp,?_,?_,hs0.trans R.rel hs⟩
 ·rw [hset]
  by_cases e:i=j
  ·subst e;rw [if_pos rfl];simp
  ·rw [if_neg e,I.eff i o' hi h3]
   constructor
   ·intro q;omega
   ·intro q
    exact (I.eff i o' hi h3).1 (effect_ahead hL hD ho hn hk hi (by omega) (.inl h3))
 ·rw [hset]
  by_cases e:i=j
  ·rw [if_pos e]
  ·rw [if_neg e];exact effect_ahead hL hD ho hn hk hi (by omega) (.inr h1)
 ·obtain ⟨hle,hb⟩:=hθ' b p hb
  obtain ⟨t1,t2,t3,t4,i,o',x',ob',u1,u2,u3,u4,u5,u6,u7,u8⟩:=I.th b p hb;have his:=(Array.getElem?_eq_some_iff.1 u2).1;refine ⟨hle,Nat.lt_of_lt_of_le t2 hs.ch.size,t3,fun b' p' hp'=>?_,i,o',x',ob',?_,u2,u3,?_,u5,u6,(hs.ch.block p.b t2 (hnw b p hb hle)).trans u7,fun χ lo w' h1 h2 h3=>u8 χ lo w' (fun d p q=>h1 d p (hcutx _ d p q)) h2 h3⟩
  ·rcases hs.dom b' p' hp' with e | ⟨_,e | e⟩
   ·obtain ⟨c1,c2⟩:=cut_some e
    intro q;rcases join_cases c2 with c2 | ⟨_,c2⟩
    ·exact t4 b' p' c2 q
    ·have:=I.inj _ _ _ _ c2 hb q
     have hm:=R.mono (i:=j) (j:=j+1) (by omega) (by omega);omega
   ·omega
   ·intro q;rw [q] at e;exact hnw b p hb hle e
  ·rcases Nat.lt_or_ge i (j+1) with q | q
   ·by_cases q2:i=j
    ·subst q2;rw [hj] at u4;cases u4
    ·have:=R.mono (i:=i+1) (j:=j) (by omega) (by omega)
     have:=R.mono (i:=j) (j:=j+1) (by omega) (by omega);rw [u6,H.add_n,u5] at *;omega
   ·exact q
  ·rw [hset]
   by_cases e:i=j
   ·rw [if_pos e]
   ·rw [if_neg e];exact u4
 ·cases hd:o.dst with
  | none=>exact I.size
  | some d=>simpa [Act.put] using I.size
 ·cases hd:o.dst <;> exact I.dfr
end
end Go.Proofs.YtcilaocknhphnaaGreat.Ev
namespace Go.Proofs.YtcilaocknhphnaaGreat.Ev
section
variable {P : Program} {N : Nat} {ops : Array Oper} {call : CallF} {S : Nat → Tr} {φ0 : Phi} {w0 w : World} {a0 a : Act} {D : Array Bool} {g : Nat} {φ θ : Phi}
def ClashOk (P:Program) (ops:Array Oper) (call:CallF) (S:Nat->Tr) (L:List DI):Prop:=∀ i k x y,i < k->k < ops.size->L[ops.size - 1 - i]? = some x->L[ops.size - 1 - k]? = some y->Nat.testBit y.bef i=false ->
 (x.kind=2->y.kind=3->leaves x.c call (S i).tm (S k).h=.one (S i).v (S k).h∧leaves x.c call (S i).tm (S (k+1)).h=.one (S i).v (S (k+1)).h) ∧
 (x.kind=3->y.kind=2->leaves y.c call (S k).tm (S i).h=.one (S k).v (S i).h∧leaves y.c call (S k).tm (S (i+1)).h=.one (S k).v (S (i+1)).h)
theorem first_effect (ops:Array Oper):∀ d g:Nat,(∀ (i:Nat) (o:Oper),g<=i->i < g+d->ops[i]? = some o->kindO o.op≠3)∨∃ (e:Nat) (o:Oper),g<=e∧e < g+d∧ops[e]? = some o∧kindO o.op=3∧∀ (i:Nat) (o':Oper),g<=i->i < e->ops[i]? = some o'->kindO o'.op≠3
 | 0,g=>.inl fun i o h1 h2=>by omega
 | d+1,g=>by
  rcases first_effect ops d g with h | ⟨e,o,h1,h2,h3,h4,h5⟩
  ·by_cases q:∃ o,ops[g+d]? = some o∧kindO o.op=3
   ·obtain ⟨o,ho,hk⟩:=q
    exact .inr ⟨g+d,o,by omega,by omega,ho,hk,fun i o' h1 h2=>h i o' h1 h2⟩
   ·refine .inl fun i o h1 h2 ho hk=>?_
    by_cases e:i=g+d
    ·subst e;exact q ⟨o,ho,hk⟩
    ·exact h i o h1 (by omega) ho hk
  ·exact .inr ⟨e,o,h1,by omega,h3,h4,h5⟩
theorem read_at (R:Reg P N ops call S φ0 w0 a0) (I:Inv N ops S φ0 w0 a0 D a w g φ θ) {L:List DI} (hL:marksD P ops ops.toList [] 0=some L) (hcl:ClashOk P ops call S L) (hD:Shut ops D) {j:Nat} {o:Oper} (ho:ops[j]? = some o) (hj:D.getD j false=false) (hn:Next' D o) (hk:kindO o.op=2):
  ∃ k,Rl (join φ θ) (S k).h w∧leaves (stepC P ops o) call (S j).tm (S k).h=.one (S j).v (S k).h:=by
 have hjs:=(Array.getElem?_eq_some_iff.1 ho).1;obtain ⟨bj,mj⟩:=mark_at hL ho;rcases Nat.lt_or_ge j g with hjg | hgj
 ·rcases I.las with h0 | ⟨oe,hoe,hke⟩
  ·omega
  ·have hes:=(Array.getElem?_eq_some_iff.1 hoe).1
   obtain ⟨be,me⟩:=mark_at hL hoe;have hde:=(I.eff (g - 1) oe hoe hke).2 (by omega);have hne:j≠g - 1:=fun q=>by rw [<- q,ho] at hoe;cases hoe;rw [hk] at hke;cases hke
   have hb:Nat.testBit (markOf P ops oe be).bef j=false:=by
    cases q:Nat.testBit (markOf P ops oe be).bef j with
    | false=>rfl
    | true=>
     have:=before_ok hL hD (g - 1) oe _ hoe me (.inl hde) j q;rw [hj] at this;cases this
   have:=((hcl j (g - 1) _ _ (by omega) hes mj me hb).1 hk hke).2;rw [show g - 1+1=g by omega] at this;exact ⟨g,cutRl R I (Nat.le_refl _) I.gm (fun i o h1 h2=>by omega),this⟩
 ·rcases first_effect ops (j - g) g with h | ⟨e,oe,h1,h2,h3,h4,h5⟩
  ·obtain ⟨o2,ho2,st⟩:=R.step j hjs
   rw [ho] at ho2;cases ho2;have he:=still_heap (.inr hk) st.tell;refine ⟨j,cutRl R I hgj (by omega) (fun i o h1 h2=>h i o h1 (by omega)),?_⟩;have:=st.tell;rw [he] at this;exact this
  ·obtain ⟨be,me⟩:=mark_at hL h3
   have hde:D.getD e false=false:=by
    cases q:D.getD e false with
    | false=>rfl
    | true=>have:=(I.eff e oe h3 h4).1 q;omega
   have hb:Nat.testBit (markOf P ops o bj).bef e=false:=by
    cases q:Nat.testBit (markOf P ops o bj).bef e with
    | false=>rfl
    | true=>
     have:=before_ok hL hD j o _ ho mj (.inr hn) e q;rw [hde] at this;cases this
   have:=((hcl e j _ _ (by omega) hjs me mj hb).2 h4 hk).1;exact ⟨e,cutRl R I h1 (by omega) (fun i o h6 h7=>h5 i o h6 h7),this⟩
end
end Go.Proofs.YtcilaocknhphnaaGreat.Ev
namespace Go.Proofs.YtcilaocknhphnaaGreat.Ev
section
variable {P : Program} {N : Nat} {ops : Array Oper} {call : CallF} {S : Nat → Tr} {φ0 : Phi} {w0 w : World} {a0 a : Act} {D : Array Bool} {g : Nat} {φ θ : Phi}
def Done (N:Nat) (ops:Array Oper) (S:Nat->Tr) (φ0:Phi) (w0:World) (a0:Act) (D:Array Bool) (a:Act) (w:World):Prop:=∃ g φ θ,Inv N ops S φ0 w0 a0 D a w g φ θ
theorem taken {h h':H} {v:AV} {o:Oper} (I:Inv N ops S φ0 w0 a0 D a w g φ θ) {L:List DI} (hL:marksD P ops ops.toList [] 0=some L) (hD:Shut ops D) {j:Nat} (ho:ops[j]? = some o) (hj:D.getD j false=false) (hn:Next' D o)
  (ht:leaves (stepC P ops o) call (S j).tm h=.one v h'):
  (Region.wanted o (yielded ops a.tmps)=true∧(∀ c,o.op≠.defer c)∧leaves (opC P o.op) call (S j).tm h=.one v h')∨(Region.wanted o (yielded ops a.tmps)=false∧v=.bad∧h'=h):=by
 have nd:leaves (opC P o.op) call (S j).tm h=.one v h'->∀ c,o.op≠.defer c:=by
  intro q c hc;rw [hc] at q;cases q
 rcases stepC_cases ht with ⟨hg,hl⟩ | ⟨gg,want,d,hg,hd,⟨hq,hl⟩ | ⟨hq,hv,hh⟩⟩
 ·exact .inl ⟨by simp [Region.wanted,hg],nd hl,hl⟩
 ·exact .inl ⟨guard_rel I hL hD ho hj hn hg hd hq,nd hl,hl⟩
 ·exact .inr ⟨guard_rel I hL hD ho hj hn hg hd hq,hv,hh⟩
theorem next_ok {r:Option Nat} {n:Nat} {Q:Exit->Act->World->Prop} (R:Reg P N ops call S φ0 w0 a0) (I:Inv N ops S φ0 w0 a0 D a w g φ θ) {L:List DI} (hL:marksD P ops ops.toList [] 0=some L) (hcl:ClashOk P ops call S L) (hD:Shut ops D) (hds:D.size=ops.size)
  {j:Nat} {o:Oper} (ho:ops[j]? = some o) (hj:D.getD j false=false) (hn:Next' D o):wpOpIn (FR r) n P ops Q j (Done N ops S φ0 w0 a0 (D.setIfInBounds j true)) a w:=by
 have hjs:=(Array.getElem?_eq_some_iff.1 ho).1;obtain ⟨o2,ho2,st⟩:=R.step j hjs;rw [ho] at ho2;cases ho2;have hev:=ops_rel I hL hD ho hj hn;have keep:kindO o.op≠3->∀ c,RelT (join φ θ) (S j).v c->Done N ops S φ0 w0 a0 (D.setIfInBounds j true) (a.put o.dst c) w:=fun hk c hv=>⟨g,φ,θ,I.keep R hL hD hds ho hj hn hk hv⟩
 have go:(Region.wanted o (yielded ops a.tmps)=true∧o.wpIn (FR r) n P a w (Done N ops S φ0 w0 a0 (D.setIfInBounds j true)) Q)∨(Region.wanted o (yielded ops a.tmps)=false∧Done N ops S φ0 w0 a0 (D.setIfInBounds j true) (a.put o.dst undef) w)->wpOpIn (FR r) n P ops Q j (Done N ops S φ0 w0 a0 (D.setIfInBounds j true)) a w:=by
  intro h;unfold wpOpIn;rw [ho];simp only [];rcases h with ⟨h1,h2⟩ | ⟨h1,h2⟩
  ·rw [if_pos h1];exact h2
  ·rw [if_neg (by rw [h1];simp)];exact ⟨fun _ _=>trivial,h2⟩
 by_cases hk2:kindO o.op=2
 ·obtain ⟨k,rl,tell⟩:=read_at R I hL hcl hD ho hj hn hk2
  rcases taken I hL hD ho hj hn tell with ⟨hw,hd,hl⟩ | ⟨hw,hv,_⟩
  ·refine go (.inl ⟨hw,?_⟩)
   have ok:=kind_read (P:=P) hk2;generalize opC P o.op=c at hl ok;cases c with
   | mv f=>
    have hl:V2.one (f (S j).tm) (S k).h=.one (S j).v (S k).h:=hl;injection hl with e1 e2;obtain ⟨cv,h1,h2⟩:=(show PrOk P o (.mv f) from ok) (join φ θ) (S j).tm a.eval hev w;exact wp_of_run hd h1 (.inl rfl) (keep (by omega) cv (by rw [<- e1];exact h2))
   | pr f=>
    obtain ⟨v,hv,hl⟩:=ob_one hl;injection hl with e1 e2;obtain ⟨cv,h1,h2⟩:=(show PrOk P o (.pr f) from ok) (join φ θ) (S j).tm a.eval v hev hv w;exact wp_of_run hd h1 (.inl rfl) (keep (by omega) cv (by rw [<- e1];exact h2))
   | rd f=>
    obtain ⟨v,hv,hl⟩:=ob_one hl;injection hl with e1 e2;obtain ⟨cv,h1,h2⟩:=ok (join φ θ) (S j).tm a.eval (S k).h w v hev rl hv;exact wp_of_run hd h1 (.inl rfl) (keep (by omega) cv (by rw [<- e1];exact h2))
   | ge f=>exact False.elim ok
  ·exact go (.inr ⟨hw,keep (by omega) undef (by rw [hv];exact relT_undef)⟩)
 ·rcases taken I hL hD ho hj hn st.tell with ⟨hw,hd,hl⟩ | ⟨hw,hv,hh⟩
  ·refine go (.inl ⟨hw,?_⟩)
   have pure:PrOk P o (opC P o.op)->kindO o.op≠3->o.wpIn (FR r) n P a w (Done N ops S φ0 w0 a0 (D.setIfInBounds j true)) Q:=by
    intro ok hk;generalize opC P o.op=c at hl ok;cases c with
    | mv f=>
     have hl:V2.one (f (S j).tm) (S j).h=.one (S j).v (S (j+1)).h:=hl;injection hl with e1 e2;obtain ⟨cv,h1,h2⟩:=ok (join φ θ) (S j).tm a.eval hev w;exact wp_of_run hd h1 (.inl rfl) (keep hk cv (by rw [<- e1];exact h2))
    | pr f=>
     obtain ⟨v,hv,hl⟩:=ob_one hl;injection hl with e1 e2;obtain ⟨cv,h1,h2⟩:=ok (join φ θ) (S j).tm a.eval v hev hv w;exact wp_of_run hd h1 (.inl rfl) (keep hk cv (by rw [<- e1];exact h2))
    | rd f=>exact False.elim ok
    | ge f=>exact False.elim ok
   rcases kind_le o.op with hk | hk | hk | hk
   ·exact pure (kind_pure hk) (by omega)
   ·rcases kind_alloc (P:=P) hk with ok | ⟨f,hf,al,h1,h2⟩
    ·exact pure ok (by omega)
    ·rw [hf] at hl
     have hl:f call (S j).tm (S j).h=.one (S j).v (S (j+1)).h:=hl;rw [h1] at hl;obtain ⟨x,hx,hl⟩:=ob_one hl;injection hl with e1 e2;obtain ⟨ob,kk,cv,h3,h4⟩:=h2 (cut (join φ θ) (S j).h.n) (S j).tm a.eval w x (ops_cut R I hL hD ho hj hn) hx;refine wp_of_run hd h3 (.inl rfl) ⟨g,φ,_,I.make R hL hD hds ho hj hn hk e2.symm (ob:=ob) (kk:=kk) fun ψ lo w' q1 q2 q3=>?_⟩;rw [<- e1];exact h4 ψ (S j).h.n lo w' q1 q2 q3
   ·exact absurd hk hk2
   ·have hgj:g<=j:=by
     rcases Nat.lt_or_ge j g with q | q
     ·have:=(I.eff j o ho hk).2 q;rw [hj] at this;cases this
     ·exact q
    obtain ⟨d,rfl⟩:∃ d,j=g+d:=⟨j - g,by omega⟩
    obtain ⟨r0,s0⟩:=cutRel R I d (by omega) fun i o' h1 h2 hi h3=>by
     have:=effect_ahead hL hD ho hn hk hi h2 (.inl h3);have:=(I.eff i o' hi h3).1 this;omega
    refine op_ok o r n call R.cok _ (S (g+d)).tm (S (g+d)).h a w (fun v h'=>v=(S (g+d)).v∧h'=(S (g+d+1)).h) _ Q (ops_cut R I hL hD ho hj hn) r0 (by rw [hl];exact ⟨rfl,rfl⟩) ?_;rintro v h' ψ w' cv ⟨rfl,rfl⟩ hv hr' hs';exact ⟨_,_,_,I.effect R hL hD hds ho hj hn hk hgj hv hr' s0 r0 hs'⟩
  ·refine go (.inr ⟨hw,?_⟩)
   by_cases hk:kindO o.op=3
   ·have hgj:g<=j:=by
     rcases Nat.lt_or_ge j g with q | q
     ·have:=(I.eff j o ho hk).2 q;rw [hj] at this;cases this
     ·exact q
    obtain ⟨d,rfl⟩:∃ d,j=g+d:=⟨j - g,by omega⟩
    obtain ⟨r0,s0⟩:=cutRel R I d (by omega) fun i o' h1 h2 hi h3=>by
     have:=effect_ahead hL hD ho hn hk hi h2 (.inl h3);have:=(I.eff i o' hi h3).1 this;omega
    refine ⟨_,_,_,I.effect (ψ:=cut (join φ θ) (S (g+d)).h.n) R hL hD hds ho hj hn hk hgj (by rw [hv];exact relT_undef) (by rw [hh];exact r0) s0 r0 (by rw [hh];exact Stp.refl _ _ _)⟩
   ·exact keep hk undef (by rw [hv];exact relT_undef)
end
end Go.Proofs.YtcilaocknhphnaaGreat.Ev
