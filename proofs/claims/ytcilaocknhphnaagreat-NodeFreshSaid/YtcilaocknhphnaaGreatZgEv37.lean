/-
  
-/
import Derived.Test.YtcilaocknhphnaaGreatZgEv26
namespace Go.Proofs.YtcilaocknhphnaaGreat.Ev
section
variable {P : Program} {N : Nat} {ops : Array Oper} {call : CallF} {S : Nat → Tr} {φ0 : Phi} {w0 w : World} {a0 a : Act} {D : Array Bool}
theorem bef_lt {l:List DI} {n:Nat}:∀ (es:List Edge) (b:Nat),befE l n es=some b->∀ e∈es,Region.binds .any e=true->e.on < n
 | [],_,_,e,he,_=>by cases he
 | e :: es,b,h,e',he,hb=>by
  obtain ⟨r,h1,h⟩:=ob_none_eq (show ob none (befE l n es) (fun r=>iteB (Region.binds .any e) (iteB (Nat.blt e.on n) (ob none (headA (dropA (n - (e.on+1)) l)) fun d=>some (Nat.lor r (Nat.lor (Nat.pow 2 e.on) d.bef))) none) (some r))=some b from h);rcases List.mem_cons.1 he with rfl | he
  ·rw [hb] at h
   obtain ⟨h2,h⟩:=iteB_some (show iteB (Nat.blt e'.on n) (ob none (headA (dropA (n - (e'.on+1)) l)) fun d=>some (Nat.lor r (Nat.lor (Nat.pow 2 e'.on) d.bef))) none=some b from h)
   simpa [Nat.blt_eq] using h2
  ·exact bef_lt es r h1 e' he hb
theorem edge_lt {L:List DI} (hL:marksD P ops ops.toList [] 0=some L) {j:Nat} {o:Oper} (ho:ops[j]? = some o) {e:Edge} (he:e∈o.after) (hb:Region.binds .any e=true):e.on < j:=by
 obtain ⟨m1,m2,m3⟩:=marks_ok ops.toList [] 0 L hL rfl;obtain ⟨b,h1,h2,h3⟩:=m3 j o (by rw [Array.getElem?_toList];exact ho);rw [Nat.zero_add] at h1;exact bef_lt _ b h1 e (by simpa using he) hb
theorem all_done {L:List DI} (hL:marksD P ops ops.toList [] 0=some L) (hds:D.size=ops.size) (hr:Region.ready .any ops D=[]):∀ i,i < ops.size->D.getD i false=true:=by
 intro i;induction i using Nat.strongRecOn with
 | _ i ih=>
  intro hi;cases hd:D.getD i false with
  | true=>rfl
  | false=>
   exfalso
   have:i∈Region.ready .any ops D:=by
    rw [mem_ready];refine ⟨?_,ops[i],Array.getElem?_eq_getElem hi,fun e he hb=>?_⟩
    ·rw [Array.getD_eq_getD_getElem?,Array.getElem?_eq_getElem (by omega)] at hd ⊢
     exact hd
    ·have:=edge_lt hL (Array.getElem?_eq_getElem hi) he hb
     exact ih e.on this (by omega)
   rw [hr] at this;cases this
theorem any_ok {r:Option Nat} {n:Nat} {Q:Exit->Act->World->Prop} (R:Reg P N ops call S φ0 w0 a0) {L:List DI} (hL:marksD P ops ops.toList [] 0=some L) (hcl:ClashOk P ops call S L)
  (hq:∀ D a w,Done N ops S φ0 w0 a0 D a w->(∀ i,i < ops.size->D.getD i false=true)->Q .normal a w):
  ∀ (fuel:Nat) (D:Array Bool) (a:Act) (w:World),Done N ops S φ0 w0 a0 D a w->Shut ops D->D.size=ops.size->D.toList.count false=fuel->wpAnyIn (FR r) n P .any ops Q fuel D a w
 | 0,D,a,w,hd,hs,hds,hc=>by
  have hall:∀ i,i < ops.size->D.getD i false=true:=by
   intro i hi;rw [Array.getD_eq_getD_getElem?,Array.getElem?_eq_getElem (by omega)];show D[i]=true;cases e:D[i] with
   | true=>rfl
   | false=>
    have:=List.count_pos_iff.2 (show false∈D.toList from by rw [<- e];simp);omega
  refine ⟨?_,hq D a w hd hall⟩;rw [List.eq_nil_iff_forall_not_mem];intro j hj;obtain ⟨h1,o,ho,_⟩:=mem_ready.1 hj;have hjs:=(Array.getElem?_eq_some_iff.1 ho).1;have:=hall j hjs;rw [Array.getD_eq_getD_getElem?,Array.getElem?_eq_getElem (by omega)] at h1 this;have h1:D[j]=false:=h1;have this:D[j]=true:=this;rw [h1] at this;cases this
 | fuel+1,D,a,w,hd,hs,hds,hc=>by
  refine ⟨fun hr=>hq D a w hd (all_done hL hds hr),fun j hj=>?_⟩;obtain ⟨h1,o,ho,hn⟩:=mem_ready.1 hj;have hjs:=(Array.getElem?_eq_some_iff.1 ho).1
  have hj':D[j]'(by omega)=false:=by
   rw [Array.getD_eq_getD_getElem?,Array.getElem?_eq_getElem (by omega)] at h1;exact h1
  have hjf:D.getD j false=false:=by
   rw [Array.getD_eq_getD_getElem?,Array.getElem?_eq_getElem (by omega)];exact hj'
  obtain ⟨g,φ,θ,I⟩:=hd;refine wpOpIn_mono (fun a' w' hd'=>?_) (next_ok R I hL hcl hs hds ho hjf hn);refine any_ok R hL hcl hq fuel _ a' w' hd' (fun i o' hi hdi e he hb=>?_) (by simpa using hds) ?_
  ·rw [set_getD (by omega)] at hdi ⊢
   by_cases q:e.on=j
   ·rw [if_pos q]
   ·rw [if_neg q]
    by_cases q2:i=j
    ·subst q2
     rw [ho] at hi;cases hi;exact hn e he hb
    ·rw [if_neg q2] at hdi
     exact hs i o' hi hdi e he hb
  ·rw [Array.toList_setIfInBounds,List.count_set (by simpa using (by omega:j < D.size))]
   simp [hj',hc]
theorem tm_same (hs:∀ i,i < ops.size->∃ o,ops[i]? = some o∧StepTr P N ops call o (S i) (S (i+1))) {t:Tmp}:∀ j,j<=ops.size->(∀ i o,ops[i]? = some o->o.dst=some t->¬ i < j)->(acc AV.bad t).run (S j).tm=(acc AV.bad t).run (S 0).tm
 | 0,_,_=>rfl
 | j+1,hj,h=>by
  obtain ⟨o,ho,st⟩:=hs j (by omega);rw [st.tm,putC_acc,if_neg (fun q=>h j o ho q (by omega))];exact tm_same hs j (by omega) fun i o hi ht=>by have:=h i o hi ht;omega
theorem done_none (R:Reg P N ops call S φ0 w0 a0):Done N ops S φ0 w0 a0 (Array.replicate ops.size false) a0 w0:=by
 have hf:∀ j,(Array.replicate ops.size false).getD j false=false:=fun j=>by
  rw [Array.getD_eq_getD_getElem?,Array.getElem?_replicate];split <;> rfl
 refine ⟨0,φ0,fun _=>none,Nat.zero_le _,.inl rfl,fun j o _ _=>?_,fun j o _ _ h=>by omega,R.rel,fun b p h=>(by cases h),fun b b' p p' h=>(by cases h),fun t j hj h=>?_,⟨R.size,rfl⟩,rfl,Stp.refl _ _ _⟩
 ·rw [hf];simp
 ·rw [tm_same R.step j hj fun i o hi ht q=>by have:=(h i o hi ht).2 q;rw [hf] at this;cases this]
  exact (R.tm t).ext fun b p h=>join_l h
theorem done_all (R:Reg P N ops call S φ0 w0 a0) (hd:Done N ops S φ0 w0 a0 D a w) (hall:∀ i,i < ops.size->D.getD i false=true):
  ∃ ψ,TmRel ψ (S ops.size).tm a.tmps∧(N<=a.tmps.size∧a.tmps.size=a0.tmps.size)∧a.defers=a0.defers∧Rel ψ (S ops.size).h w∧Stp φ0 (S 0).h w0 ψ (S ops.size).h w:=by
 obtain ⟨g,φ,θ,I⟩:=hd
 obtain ⟨r,s⟩:=cutRel R I (ops.size - g) (by have:=I.gm;omega) fun j o h1 h2 ho hk=>by
  have hjs:=(Array.getElem?_eq_some_iff.1 ho).1;have:=(I.eff j o ho hk).1 (hall j hjs);omega
 rw [show g+(ops.size - g)=ops.size by have:=I.gm;omega] at r s;refine ⟨_,fun t=>?_,I.size,I.dfr,r,s⟩;refine bd_T (I.tmp t ops.size (Nat.le_refl _) fun i o hi _=>?_) (R.bd (Nat.le_refl _) t);have his:=(Array.getElem?_eq_some_iff.1 hi).1;simp [hall i his,his]
theorem trAt_ok {i:Nat} {l:List Tr} {f:Tr->Bool} (h:trAt i l f=true):∃ s,l[i]? = some s∧f s=true:=by
 unfold trAt at h;rw [dropA_eq] at h;cases e:l.drop i with
 | nil=>rw [e] at h;cases h
 | cons s r=>
  rw [e] at h;refine ⟨s,?_,h⟩;have:=congrArg (fun l=>l[0]?) e
  simpa using this
theorem reads_ok {c:OpC} {s:Tr} {h:H} (e:readsSame c s h=true):leaves c call s.tm h=.one s.v h:=by
 cases c with
 | rd f=>
  have e:ob false (f s.tm h) (fun v=>sameV v s.v)=true:=e;cases q:f s.tm h with
  | none=>rw [q] at e;cases e
  | some v=>
   rw [q] at e;have:v=s.v:=sameV_eq e;show ob V2.no (f s.tm h) _=_;rw [q,<- this];rfl
 | mv f=>cases e
 | pr f=>cases e
 | ge f=>cases e
theorem draw_ok (hm:P.follows .mixedOrders=true):DrawOk P:=by
 intro B r N id ops n call hc lo _ φ tm h a w K Q hat hk hq;have hk:((drawC P N ops).run call tm h).all K:=hk;unfold drawC at hk;cases hcl:(clC P ops).l with
 | none=>rw [hcl] at hk;exact False.elim hk
 | some cl=>
  rw [hcl] at hk;have hk:((traceC P N ops (fun tr tm h=>iteB (allB (clashOk ops.size (⟨tm,h,.bad⟩ :: tr)) cl) (.one .normal tm h) .no) ops.toList).run call tm h []).all K:=hk;obtain ⟨L,hL,hcl⟩:=ob_none_eq (show ob none (marksD P ops ops.toList [] 0) (fun l=>some (clashesD l (lenL l) []))=some cl from hcl);cases hcl;obtain ⟨T,tm',h',t1,t2,⟨s0,t3,t4,t5⟩,t6⟩:=trace_ok ops.toList [] tm h hk;rw [Array.length_toList (xs:=ops)] at t1;rw [List.append_nil] at t2;obtain ⟨hch,hK⟩:=iteB_allO t2;obtain ⟨S,hS⟩:∃ S:Nat->Tr,∀ (j:Nat) (s:Tr),(T++[(⟨tm',h',.bad⟩:Tr)])[j]? = some s->S j=s:=⟨fun j=>((T++[(⟨tm',h',.bad⟩:Tr)])[j]?).getD (⟨tm',h',.bad⟩:Tr),fun j s e=>(by simp [e])⟩
  have step:∀ i,i < ops.size->∃ o,ops[i]? = some o∧StepTr P N ops call o (S i) (S (i+1)):=by
   intro i hi;obtain ⟨s,s',e1,e2,e3⟩:=t6 i ops[i] (by simp);refine ⟨ops[i],Array.getElem?_eq_getElem hi,?_⟩;rw [hS _ _ e1,hS _ _ e2];exact e3
  have h0:S 0=s0:=hS _ _ t3;have hend:S ops.size=⟨tm',h',.bad⟩:=hS _ _ (by rw [List.getElem?_append_right (by omega),t1];simp);have hat0:Rel φ h { w with drawn:=w.drawn+1 }:=hat.rel.heap rfl;have R:Reg P N ops call S φ { w with drawn:=w.drawn+1 } a:=⟨hc,step,by rw [h0,t4];exact hat.tm,hat.size,by rw [h0,t5];exact hat0⟩
  have hcl:ClashOk P ops call S L:=by
   obtain ⟨m1,m2,m3⟩:=marks_ok ops.toList [] 0 L hL rfl;rw [Array.length_toList (xs:=ops),Nat.zero_add] at m1;rw [allB_iff] at hch
   have look:∀ i,i<=ops.size->∀ s,((⟨tm',h',.bad⟩:Tr) :: T.reverse)[ops.size - i]? = some s->s=S i:=by
    intro i hi s hs;have e:(⟨tm',h',.bad⟩:Tr) :: T.reverse=(T++[(⟨tm',h',.bad⟩:Tr)]).reverse:=by simp
    rw [e,List.getElem?_reverse (by rw [List.length_append,t1];simp;omega)] at hs;refine (hS i s ?_).symm;rw [<- hs]
    congr 1
    rw [List.length_append,t1,List.length_singleton];omega
   have one:∀ c i j,i<=ops.size->j+1<=ops.size->(⟨c,i,j⟩:Clash)∈clashesD L (lenL L) []->leaves c call (S i).tm (S j).h=.one (S i).v (S j).h∧leaves c call (S i).tm (S (j+1)).h=.one (S i).v (S (j+1)).h:=by
    intro c i j hi hj hmem;have:=hch _ hmem;obtain ⟨s,e1,this⟩:=trAt_ok (show trAt (ops.size - i) _ _=true from this);obtain ⟨x,e2,this⟩:=trAt_ok (show trAt (ops.size - j) _ _=true from this);obtain ⟨y,e3,this⟩:=trAt_ok (show trAt (ops.size - (j+1)) _ _=true from this);obtain ⟨g1,g2⟩:=andB_iff.1 this;rw [<- look i hi s e1,<- look j (by omega) x e2,<- look (j+1) hj y e3];exact ⟨reads_ok g1,reads_ok g2⟩
   intro i k x y hik hk hx hy hb;obtain ⟨_,g⟩:=clashes_ok L ops.size [] m1;obtain ⟨g1,g2⟩:=g i k x y hik hk hx hy hb;rw [<- m1,<- lenL_eq] at g1 g2;exact ⟨fun p q=>one _ i k (by omega) (by omega) (g1 p q),fun p q=>one _ k i (by omega) (by omega) (g2 p q)⟩
  refine wpIn_region_any hm ?_;refine any_ok R hL hcl (fun D a' w' hd hall=>?_) ops.size _ a _ (done_none R) (fun j o _ hj=>?_) (by simp) (by simp)
  ·obtain ⟨ψ,g1,g2,g3,g4,g5⟩:=done_all R hd hall
   rw [hend] at g1 g4 g5;rw [h0,t5] at g5;have st:Stp φ h w φ h { w with drawn:=w.drawn+1 }:=Stp.heap rfl ⟨rfl,rfl,rfl⟩;have g6:=Stp.trans hat.rel st g5;exact hq .normal tm' h' ψ a' w' hK ⟨g1,g2.1,by rw [g3];exact hat.dfs.step hat.rel g6,g4,g2.2.trans hat.keep.1,fun ds hds=>by rw [g3];exact hat.keep.2 ds hds⟩ g6
  ·rw [Array.getD_eq_getD_getElem?,Array.getElem?_replicate] at hj
   split at hj <;> cases hj
end
end Go.Proofs.YtcilaocknhphnaaGreat.Ev
namespace Go.Proofs.YtcilaocknhphnaaGreat.Ev
section
variable {P : Program}
def namesOk (P:Program):Bool:=P.funcs.toList.all fun fn=>!(fn.name == "runtime.NumGoroutine")
theorem names_of (h:namesOk P=true) (f:Nat) (fn:Func) (hf:P.funcs[f]? = some fn) (_:fn.body.isSome=true):fn.name≠"runtime.NumGoroutine":=by
 have:=List.all_eq_true.1 h fn (List.mem_of_getElem? (by rw [Array.getElem?_toList];exact hf))
 simpa using this
theorem eval_ok (hm:P.follows .mixedOrders=true) (hn:namesOk P=true) {qs:List Nat} {n f:Nat} {args:List AV} {A:Array Value} {φ:Phi} {h:H} {w:World} {K:AV->H->Prop} (ha:L2 (RelT φ) args A.toList) (r:Rel φ h w) (hk:(fcall P qs n [f] args h).all K):
  Calls P f A w (CallPost φ h w K):=((fcall_ok (draw_ok hm) (names_of hn) qs n).fn f args A φ h w K ha r hk).2
theorem told_any (hm:P.follows .mixedOrders=true) (hn:namesOk P=true) {qs:List Nat} {n f:Nat} (h:told (fcall P qs n [f] [] H0)=true) (w:World):
  Calls P f #[] w fun e w'=>e=.returned (.bool true)∧Ch (fun _=>False) w w':=told_ok (draw_ok hm) (names_of hn) h w
end
end Go.Proofs.YtcilaocknhphnaaGreat.Ev
namespace Go.Proofs.YtcilaocknhphnaaGreat.Ev
section
variable {P : Program}
theorem piece_ok (hm:P.follows .mixedOrders=true) (hn:namesOk P=true) {qs:List Nat} {n N:Nat} {code:Code} {φ:Phi} {tm:Tm} {h:H} {a:Act} {w:World} {K:Ex->Tm->H->Prop} {Q:Exit->Act->World->Prop}
  (ht:TmRel φ tm a.tmps) (hN:N<=a.tmps.size) (hd:a.defers=[]) (r:Rel φ h w) (hk:((comp P false N code).run (fcall P qs n) tm h).all K)
  (hq:∀ e tm' h' ψ (a':Act) w',K e tm' h'->TmRel ψ tm' a'.tmps->a'.tmps.size=a.tmps.size->a'.defers=[]->Rel ψ h' w'->Stp φ h w ψ h' w'->Q (exOf e) a' w'):code.wp P Q a w:=by
 refine (wpIn_wide (n:=0)).1 ?_;refine comp_ok (draw_ok hm) false none (fun _=>rfl) N code 0 (fcall P qs n) (fcall_ok (draw_ok hm) (names_of hn) qs n) ⟨w.heap.size,a.tmps.size,some []⟩ (fun q=>by cases q) φ tm h a w K Q ⟨ht,hN,?_,r,rfl,fun ds hds=>by cases hds;exact hd⟩ hk ?_
 ·rw [hd];exact ⟨Nat.le_refl _,[],rfl,List.nodup_nil,by simp⟩
 ·intro e tm' h' ψ a' w' k1 k2 k3
  exact hq e tm' h' ψ a' w' k1 k2.tm k2.keep.1 (k2.keep.2 [] rfl) k2.rel k3
theorem tmRel_lit {φ:Phi} {l:List AV} {vs:Array Value} (h:L2 (RelT φ) l vs.toList):TmRel φ (argsT l 0 .lf) vs:=by
 have:=argsT_rel h 0
 simpa using this
theorem Rel.chg {S:Nat->Prop} {φ:Phi} {h:H} {w w':World} (r:Rel φ h w) (c:Ch S w w') (hs:∀ b p,φ b=some p->¬ S p.b):Rel φ h w' where
 blk b p hp:=(r.blk b p hp).same (c.block _ (r.inw b p hp) (hs b p hp)) fun m pm _ hm=>c.block _ (r.inw m pm hm) (hs m pm hm)
 inj:=r.inj
 low:=r.low
 dom:=r.dom
 inw b p hp:=Nat.lt_of_lt_of_le (r.inw b p hp) c.size
 new:=r.new
 le:=r.le
theorem Rel.blind {φ:Phi} {h:H} {w:World} (r:Rel φ h w) {p:Pl} (hne:∀ b q,φ b=some q->q.b≠p.b) (hp:p.b < w.heap.size):Rel (φ.add h.n p) (h.add .gone) w:=r.takein hne hp .gone
def vOf:V2->AV
 | .one v _=>v
 | _=>.bad
def hOf:V2->H
 | .one _ h=>h
 | _=>H0
def tmOf:O3->Tm
 | .one _ t _=>t
 | _=>.lf
def hpOf:O3->H
 | .one _ _ h=>h
 | _=>H0
end
end Go.Proofs.YtcilaocknhphnaaGreat.Ev
