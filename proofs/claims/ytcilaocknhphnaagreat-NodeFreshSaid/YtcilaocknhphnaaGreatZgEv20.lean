/-
  
-/
import Derived.Sort.LoopGhostIn
import Derived.OrdersIn
import Derived.Test.YtcilaocknhphnaaGreatZgEv15
namespace Go.Proofs.YtcilaocknhphnaaGreat.Ev
section
variable {P : Program} {φ : Phi} {h : H} {w w' : World}
theorem sameC_eq {a b:AV} (h:sameC a b=true):a=b:=by
 cases a <;> cases b <;> first | (cases h;done) | rfl | skip
 case bool.bool x y=>have:(x == y)=true:=h;rw [beq_iff_eq] at this;rw [this]
 case int.int j x k y=>
  obtain ⟨h1,h2⟩:=andB_iff.1 (show andB (Nat.beq (kn j) (kn k)) (eqI x y)=true from h);rw [kn_inj h1];rw [eqI_eq,beq_iff_eq] at h2;rw [h2]
 case str.str x y=>
  have:eqNs x y=true:=h;rw [eqNs_iff,decide_eq_true_eq] at this;rw [this]
 case ptr.ptr x o y q=>
  obtain ⟨h1,h2⟩:=andB_iff.1 (show andB (Nat.beq x y) (Nat.beq o q)=true from h);rw [Nat.eq_of_beq_eq_true h1,Nat.eq_of_beq_eq_true h2]
 case sl.sl a o n c e b p m d f=>
  obtain ⟨h1,h2⟩:=andB_iff.1 (show andB (Nat.beq a b) (andB (Nat.beq o p) (andB (Nat.beq n m) (andB (Nat.beq c d) (Nat.beq e f))))=true from h);obtain ⟨h2,h3⟩:=andB_iff.1 h2;obtain ⟨h3,h4⟩:=andB_iff.1 h3;obtain ⟨h4,h5⟩:=andB_iff.1 h4;rw [Nat.eq_of_beq_eq_true h1,Nat.eq_of_beq_eq_true h2,Nat.eq_of_beq_eq_true h3,Nat.eq_of_beq_eq_true h4,Nat.eq_of_beq_eq_true h5]
 case map.map a b=>rw [Nat.eq_of_beq_eq_true (show Nat.beq a b=true from h)]
theorem sameL_eq:∀ {a b:List AV},sameL a b=true->a=b
 | [],[],_=>rfl
 | [],_ :: _,h=>by cases h
 | _ :: _,[],h=>by cases h
 | x :: a,y :: b,h=>by
  have h:iteB (sameC x y) (sameL a b) false=true:=h;cases hc:sameC x y with
  | false=>rw [hc] at h;cases h
  | true=>rw [hc] at h;rw [sameC_eq hc,sameL_eq h]
theorem sameV_eq {a b:AV} (h:sameV a b=true):a=b:=by
 cases a <;> cases b <;> first | exact sameC_eq h | skip
 case fn.fn f a b g c d=>
  obtain ⟨h1,h2⟩:=andB_iff.1 (show andB (Nat.beq f g) (andB (sameL a c) (sameL b d))=true from h);obtain ⟨h2,h3⟩:=andB_iff.1 h2;rw [Nat.eq_of_beq_eq_true h1,sameL_eq h2,sameL_eq h3]
 case agg.agg a b=>rw [sameL_eq (show sameL a b=true from h)]
 case tup.tup a b=>rw [sameL_eq (show sameL a b=true from h)]
theorem leaves_guard (d:Tmp) (want:Bool) (c:OpC) (call:CallF) (tm:Tm) (h:H):leaves (guardC d want c) call tm h=ob .no (isG want ((acc AV.bad d).run tm)) fun q=>iteB q (leaves c call tm h) (.one .bad h):=by
 cases c with
 | mv f=>
  show ob V2.no (ob none (isG want ((acc AV.bad d).run tm)) fun q=>some (iteB q (f tm) .bad)) _=_;rw [ob_ob];cases isG want ((acc AV.bad d).run tm) with
  | none=>rfl
  | some q=>cases q <;> rfl
 | pr f=>
  show ob V2.no (ob none (isG want ((acc AV.bad d).run tm)) fun q=>iteB q (f tm) (some .bad)) _=_;rw [ob_ob];cases isG want ((acc AV.bad d).run tm) with
  | none=>rfl
  | some q=>cases q <;> rfl
 | rd f=>
  show ob V2.no (ob none (isG want ((acc AV.bad d).run tm)) fun q=>iteB q (f tm h) (some .bad)) _=_;rw [ob_ob];cases isG want ((acc AV.bad d).run tm) with
  | none=>rfl
  | some q=>cases q <;> rfl
 | ge f=>rfl
theorem getD_some {t:Array Value} {d:Nat} {v:Value} (h:t.getD d undef=v) (hv:v≠undef):t[d]? = some v:=by
 rw [Array.getD_eq_getD_getElem?] at h;cases e:t[d]? with
 | none=>rw [e] at h;exact absurd h.symm hv
 | some x=>rw [e] at h;exact congrArg some h
theorem guard_ok {ops:Array Oper} {a:Act} {tm:Tm} (ht:TmRel φ tm a.tmps) {o:Oper} {g:Nat} {want q:Bool} {d:Tmp} (ho:o.guard=some (g,want)) (hd:(ops[g]?).bind (·.dst)=some d)
  (hq:isG want ((acc AV.bad d).run tm)=some q):Region.wanted o (yielded ops a.tmps)=q:=by
 have hr:=ht d;unfold Region.wanted yielded;rw [ho];simp only [hd,Option.bind_some];generalize (acc AV.bad d).run tm=x at hr hq;cases x <;> first | (cases hq;done) | skip
 case bad=>
  cases hq;have hr:=relT_bad hr;cases e:a.tmps[d]? with
  | none=>simp
  | some v=>
   rw [Array.getD_eq_getD_getElem?,e] at hr;have:v=undef:=hr;subst this;simp [undef]
 case bool b=>
  cases hq;rw [getD_some (relT_bool hr) (by simp [undef])];simp
theorem put_rel {N:Nat} {dst:Option Tmp} {tm:Tm} {a:Act} {v:AV} {cv:Value} (hd:okDst N dst=true) (hN:N<=a.tmps.size) (ht:TmRel φ tm a.tmps) (hv:RelT φ v cv):
  TmRel φ ((putC dst).run tm v) (a.put dst cv).tmps∧N<=(a.put dst cv).tmps.size∧(a.put dst cv).defers=a.defers:=by
 cases dst with
 | none=>exact ⟨ht,hN,rfl⟩
 | some d=>
  have hd:Nat.blt d N=true:=hd;rw [Nat.blt_eq] at hd;refine ⟨fun t=>?_,by simpa [Act.put] using hN,rfl⟩;show RelT φ ((acc AV.bad t).run ((upd AV.bad d).run tm v)) ((a.tmps.setIfInBounds d cv).getD t undef);rw [acc_upd,Array.getD_eq_getD_getElem?,Array.getElem?_setIfInBounds];by_cases e:t=d
  ·subst e
   rw [if_pos rfl,if_pos rfl,if_pos (by omega)];exact hv
  ·rw [if_neg e,if_neg (fun q=>e q.symm),<- Array.getD_eq_getD_getElem?]
   exact ht t
theorem put_size (a:Act) (dst:Option Tmp) (cv:Value):(a.put dst cv).tmps.size=a.tmps.size:=by cases dst <;> simp [Act.put]
theorem step_ok {r:Option Nat} {n:Nat} {call:CallF} (hc:CallOk P call) {ops:Array Oper} {o:Oper} {tm:Tm} {a:Act} {K:AV->H->Prop} {next:Act->World->Prop} {Q:Exit->Act->World->Prop} (ht:TmRel φ tm a.tmps) (hr:Rel φ h w)
  (hk:(leaves (stepC P ops o) call tm h).all K) (hn:∀ v h' ψ w' cv,K v h'->RelT ψ v cv->Rel ψ h' w'->Stp φ h w ψ h' w'->next (a.put o.dst cv) w'):
  if Region.wanted o (yielded ops a.tmps) then o.wpIn (FR r) n P a w next Q else (∀ f,o.about P w a.eval=some f->(FR r).fn f)∧next (a.put o.dst undef) w:=by
 cases hg:o.guard with
 | none=>
  rw [show Region.wanted o (yielded ops a.tmps)=true by simp [Region.wanted,hg]];have:stepC P ops o=opC P o.op:=by unfold stepC;rw [hg]
  rw [this] at hk;simp only [if_true];exact op_ok o r n call hc φ tm h a w K next Q (EvRel.of ht _) hr hk hn
 | some gw=>
  obtain ⟨g,want⟩:=gw;cases hd:(ops[g]?).bind (·.dst) with
  | none=>
   have:stepC P ops o=failC:=by unfold stepC;rw [hg];simp only [hd]
   rw [this] at hk;exact False.elim hk
  | some d=>
   have:stepC P ops o=guardC d want (opC P o.op):=by unfold stepC;rw [hg];simp only [hd]
   rw [this,leaves_guard] at hk;obtain ⟨q,hq,hk⟩:=ob_all hk;rw [guard_ok ht hg hd hq];cases q with
   | true=>simp only [if_true];exact op_ok o r n call hc φ tm h a w K next Q (EvRel.of ht _) hr hk hn
   | false=>
    simp only [Bool.false_eq_true,if_false];exact ⟨fun _ _=>trivial,hn _ _ _ _ _ hk relT_undef hr (Stp.refl _ _ _)⟩
theorem consC_all {c:OpC} {p:PutC} {rc:RC} {call:CallF} {tm:Tm} {K:Ex->Tm->H->Prop} (hk:((consC c p rc).run call tm h).all K):(leaves c call tm h).all fun v h'=>(rc.run call (p.run tm v) h').all K:=by
 cases c with
 | mv f=>exact hk
 | pr f=>obtain ⟨v,hv,hk⟩:=ob_allO hk;show (ob V2.no (f tm) _).all _;rw [hv];exact hk
 | rd f=>obtain ⟨v,hv,hk⟩:=ob_allO hk;show (ob V2.no (f tm h) _).all _;rw [hv];exact hk
 | ge f=>exact V2.all_bndO hk
def Dfs (lo:Nat) (w:World) (ds:List Deferred):Prop:=lo<=w.heap.size∧∃ Ds:List Nat,ds=Ds.map (fun D=>{ target:=.collected D,args:=#[] })∧Ds.Nodup∧∀ D∈Ds,lo<=D∧w.heap[D]? = some (.deferred (some []))
theorem Dfs.step {ψ:Phi} {h':H} {lo:Nat} {ds:List Deferred} (d:Dfs lo w ds) (r:Rel φ h w) (s:Stp φ h w ψ h' w'):Dfs lo w' ds:=by
 obtain ⟨h0,Ds,h1,h2,h3⟩:=d;refine ⟨Nat.le_trans h0 s.ch.size,Ds,h1,h2,fun D hD=>⟨(h3 D hD).1,?_⟩⟩;have hd:=(h3 D hD).2;rw [s.ch.block D (Array.getElem?_eq_some_iff.1 hd).1 ?_]
 ·exact hd
 ·rintro ⟨b,p,_,hp,rfl,ha⟩
  have:=(r.blk b p hp).notDef ha hd;cases this
structure Lo where
  n : Nat
  sz : Nat
  df : Option (List Deferred)
structure At (N : Nat) (lo : Lo) (φ : Phi) (tm : Tm) (h : H) (a : Act) (w : World) : Prop where
  tm : TmRel φ tm a.tmps
  size : N ≤ a.tmps.size
  dfs : Dfs lo.n w a.defers
  rel : Rel φ h w
  keep : a.tmps.size = lo.sz ∧ ∀ ds, lo.df = some ds → a.defers = ds
def exOf:Ex->Exit
 | .normal=>.normal
 | .exit i=>.exit i
 | .ret=>.ret
def AllQ (N:Nat) (lo:Lo) (φ:Phi) (h:H) (w:World) (K:Ex->Tm->H->Prop) (Q:Exit->Act->World->Prop):Prop:=
 ∀ e tm' h' ψ a' w',K e tm' h'->At N lo ψ tm' h' a' w'->Stp φ h w ψ h' w'->Q (exOf e) a' w'
def RcOk (P:Program) (B:Bool) (r:Option Nat) (N:Nat) (c:RC) (code:Code):Prop:=∀ n call,CallOk P call->∀ (lo:Lo),(B=true->lo.df=none)->∀ φ tm h a w K Q,At N lo φ tm h a w->(c.run call tm h).all K->AllQ N lo φ h w K Q->code.wpIn (FR r) n P Q a w
theorem regC_ok {r:Option Nat} {N:Nat} {ops:Array Oper} {n:Nat} {call:CallF} (hc:CallOk P call) {lo:Lo} {K:Ex->Tm->H->Prop} {Q:Exit->Act->World->Prop}:
  ∀ (l:List Oper) (φ:Phi) (tm:Tm) (h:H) (a:Act) (w:World),At N lo φ tm h a w->((regC P N ops l).run call tm h).all K->AllQ N lo φ h w K Q->wpListIn (FR r) n P ops Q l a w
 | [],φ,tm,h,a,w,hat,hk,hq=>hq .normal tm h φ a w hk hat (Stp.refl _ _ _)
 | o :: l,φ,tm,h,a,w,hat,hk,hq=>by
  have hk:((iteB (okDst N o.dst) (consC (stepC P ops o) (putC o.dst) (regC P N ops l)) cBad).run call tm h).all K:=hk;cases hd:okDst N o.dst with
  | false=>rw [hd] at hk;exact False.elim hk
  | true=>
   rw [hd] at hk;have hk:=consC_all hk;refine step_ok hc hat.tm hat.rel hk fun v h' ψ w' cv hk' hv hr' hs=>?_;obtain ⟨p1,p2,p3⟩:=put_rel hd hat.size (hat.tm.ext hs.ext) hv;exact regC_ok hc l ψ _ h' _ w' ⟨p1,p2,by rw [p3];exact hat.dfs.step hat.rel hs,hr',(put_size _ _ _).trans hat.keep.1,fun ds hds=>by rw [p3];exact hat.keep.2 ds hds⟩ hk' fun e tm'' h'' χ a'' w'' k1 k2 k3=>hq e tm'' h'' χ a'' w'' k1 k2 (Stp.trans hat.rel hs k3)
theorem region_ok {B:Bool} {r:Option Nat} {N id:Nat} {ops:Array Oper}:RcOk P B r N (regC P N ops ops.toList) (.region id ops false):=fun n call hc lo _ φ tm h a w K Q hat hk hq=>
 wpIn_region_list (regC_ok hc ops.toList φ tm h a w hat hk hq)
end
end Go.Proofs.YtcilaocknhphnaaGreat.Ev
namespace Go.Proofs.YtcilaocknhphnaaGreat.Ev
section
variable {P : Program} {φ : Phi} {h : H} {w w' : World}
def DrawOk (P:Program):Prop:=∀ B r N id ops,RcOk P B r N (drawC P N ops) (.region id ops true)
theorem AllQ.of {N:Nat} {lo:Lo} {φ ψ:Phi} {h h':H} {w w':World} {K:Ex->Tm->H->Prop} {Q:Exit->Act->World->Prop} (r:Rel φ h w) (s:Stp φ h w ψ h' w') (hq:AllQ N lo φ h w K Q):AllQ N lo ψ h' w' K Q:=
 fun e tm h'' χ a w'' k1 k2 k3=>hq e tm h'' χ a w'' k1 k2 (Stp.trans r s k3)
theorem skip_ok {B:Bool} {r:Option Nat} {N:Nat}:RcOk P B r N ⟨fun _ tm h=>.one .normal tm h⟩ .skip:=fun n call hc lo hB φ tm h a w K Q hat hk hq=>
 wpIn_skip (hq .normal tm h φ a w hk hat (Stp.refl _ _ _))
theorem exit_ok {B:Bool} {r:Option Nat} {N i:Nat}:RcOk P B r N ⟨fun _ tm h=>.one (.exit i) tm h⟩ (.exit i):=fun n call hc lo hB φ tm h a w K Q hat hk hq=>
 wpIn_exit (hq (.exit i) tm h φ a w hk hat (Stp.refl _ _ _))
theorem ret_ok {B:Bool} {r:Option Nat} {N:Nat}:RcOk P B r N ⟨fun _ tm h=>.one .ret tm h⟩ .ret:=fun n call hc lo hB φ tm h a w K Q hat hk hq=>
 wpIn_ret (hq .ret tm h φ a w hk hat (Stp.refl _ _ _))
theorem bad_ok {B:Bool} {r:Option Nat} {N:Nat} (c:Code):RcOk P B r N cBad c:=fun n call hc lo hB φ tm h a w K Q hat hk hq=>False.elim hk
theorem seq_ok {B:Bool} {r:Option Nat} {N:Nat} {x y:Code} {a b:RC} (ha:RcOk P B r N a x) (hb:RcOk P B r N b y):RcOk P B r N (cSeq a b) (.seq x y):=fun n call hc lo hB φ tm h act w K Q hat hk hq=>by
 have hk:=O3.all_bnd hk;refine wpIn_seq (ha n call hc lo hB φ tm h act w _ _ hat hk ?_);intro e tm' h' ψ a' w' k1 k2 k3;cases e with
 | normal=>exact hb n call hc lo hB ψ tm' h' a' w' K Q k2 k1 (hq.of hat.rel k3)
 | exit i=>exact hq (.exit i) tm' h' ψ a' w' k1 k2 k3
 | ret=>exact hq .ret tm' h' ψ a' w' k1 k2 k3
theorem cond_ok {B:Bool} {r:Option Nat} {N:Nat} {c:Operand} {x y:Code} {a b:RC} (ha:RcOk P B r N a x) (hb:RcOk P B r N b y):RcOk P B r N (cCond (opd c) a b) (.cond c x y):=fun n call hc lo hB φ tm h act w K Q hat hk hq=>by
 obtain ⟨q,hq1,hk⟩:=ob_allO hk;have hx:=opd_rel hat.tm c;rw [isB_some hq1] at hx;refine wpIn_cond (relT_bool hx) ?_;cases q with
 | true=>exact ha n call hc lo hB φ tm h act w K Q hat hk hq
 | false=>exact hb n call hc lo hB φ tm h act w K Q hat hk hq
theorem block_ok {B:Bool} {r:Option Nat} {N id:Nat} {x:Code} {a:RC} (ha:RcOk P B r N a x):RcOk P B r N (cBlock id a) (.block id x):=fun n call hc lo hB φ tm h act w K Q hat hk hq=>by
 have hk:=O3.all_bnd hk;refine wpIn_block (ha n call hc lo hB φ tm h act w _ _ hat hk ?_);intro e tm' h' ψ a' w' k1 k2 k3;cases e with
 | normal=>exact hq .normal tm' h' ψ a' w' k1 k2 k3
 | exit i=>
  have k1:K (iteB (Nat.beq i id) .normal (.exit i)) tm' h':=k1;show Exit.inBlock id Q (.exit i) a' w';cases hi:Nat.beq i id with
  | true=>
   rw [hi] at k1;have:=Nat.eq_of_beq_eq_true hi;simp only [Exit.inBlock,this,if_true];exact hq .normal tm' h' ψ a' w' k1 k2 k3
  | false=>
   rw [hi] at k1;have:i≠id:=fun e=>by rw [e,Nat.beq_refl] at hi;cases hi
   simp only [Exit.inBlock,this,if_false];exact hq (.exit i) tm' h' ψ a' w' k1 k2 k3
 | ret=>exact hq .ret tm' h' ψ a' w' k1 k2 k3
theorem loop_ok {B:Bool} {r:Option Nat} {N:Nat} {x:Code} {a:RC} (ha:RcOk P B r N a x):RcOk P B r N (cLoop a) (.loop x):=fun n call hc lo hB φ tm h act w K Q hat hk hq=>by
 refine wpIn_loop_ghost (fun fuel a' w'=>∃ ψ tm' h',At N lo ψ tm' h' a' w'∧(loopN (a.run call) fuel tm' h').all K∧AllQ N lo ψ h' w' K Q) 100000 ⟨φ,tm,h,hat,hk,hq⟩ ?_;rintro fuel a' w' ⟨ψ,tm',h',g1,g2,g3⟩;cases fuel with
 | zero=>exact False.elim g2
 | succ fuel=>
  have g2:=O3.all_bnd (show ((a.run call tm' h').bnd fun e tm h=>thenE e tm h (loopN (a.run call) fuel)).all K from g2);refine ha n call hc lo hB ψ tm' h' a' w' _ _ g1 g2 ?_;intro e tm2 h2 χ a2 w2 k1 k2 k3;cases e with
  | normal=>exact ⟨fuel,Nat.lt_succ_self _,χ,tm2,h2,k2,k1,g3.of g1.rel k3⟩
  | exit i=>exact g3 (.exit i) tm2 h2 χ a2 w2 k1 k2 k3
  | ret=>exact g3 .ret tm2 h2 χ a2 w2 k1 k2 k3
theorem Stp.defs (hsz:w.heap.size<=w'.heap.size) (v:Even w w') (ho:∀ k,k < w.heap.size->w'.heap[k]? = w.heap[k]?):Stp φ h w φ h w':=
 ⟨Ext.refl _,Nat.le_refl _,rfl,fun _ _=>rfl,fun _ _ q=>q,⟨v.os,v.tape,v.output,hsz,fun k hk _=>ho k hk⟩,fun _ _ q=>.inl q⟩
theorem alloc_old {g:Obj} {k:Nat} (hk:k < w.heap.size):(w.alloc g).heap[k]? = w.heap[k]?:=by
 show (w.heap.push g)[k]? = _;rw [Array.getElem?_push,if_neg (by omega)]
theorem alloc_new {g:Obj}:(w.alloc g).heap[w.heap.size]? = some g:=by show (w.heap.push g)[w.heap.size]? = some g;simp
theorem loop_some (r:Rel φ h w) {b:Nat} {p:Pl} (hp:φ b=some p) {N:Nat} {tm:Tm} {ps:List Tmp} {x y:Code} {pe:Option Ex} (hb:h.blk b=.loop N tm ps x y pe):
  ∃ l:Loop,w.heap[p.b]? = some (.loop l)∧l.params=ps.toArray∧l.assign=x∧l.body=y∧pendOk pe l.state l.pending∧N<=l.tmps.size∧TmRel φ tm l.tmps:=by
 have:=r.blk b p hp;rw [hb] at this;cases this with
 | loop h1 h2 h3 h4 h5 h6 h7=>exact ⟨_,h1,h2,h3,h4,h5,h6,h7⟩
theorem rangeFunc_ok {N:Nat} {f:Operand} {ps:Array Tmp} {x y:Code}:RcOk P true none N (cRangeFunc N (opd f) ps x y) (.rangeFunc f ps x y):=fun n call hc lo hB φ tm h act w K Q hat hk hq=>by
 have hk:=V2.all_bndO (show ((callFn call (h.add (.loop N tm ps.toList x y none)) [.yl h.n] ((opd f).run tm)).bndO fun _ h2=>ob .no (h2.put h.n .gone) fun h3=>afterRF tm h3 (h2.blk h.n)).all K from hk);have hf:=opd_rel hat.tm f;generalize hX:(opd f).run tm=X at hf hk;cases X <;> first | exact False.elim hk | skip
 rename_i g fst cap;obtain ⟨A,C,ef,hA,hC⟩:=relT_fn hf;have hk:(call [g] (appL fst (appL [.yl h.n] cap)) (h.add (.loop N tm ps.toList x y none))).all _:=hk;rw [appL_eq,appL_eq] at hk;rw [FR_none];refine wpIn_rangeFunc fun fn _=>?_;have s0:Stp φ h w φ h (w.alloc (.deferred (some []))):=Stp.defs (by simp) ⟨rfl,rfl,rfl⟩ fun k hk=>alloc_old hk
 have r0:Rel φ h (w.alloc (.deferred (some []))):=hat.rel.defs (by simp) fun k o ho _=>by
  rw [alloc_old (Array.getElem?_eq_some_iff.1 ho).1];exact ho
 generalize hrec:({ state:=.ready,pending:=none,fn:=fn,tmps:=act.tmps,params:=ps,assign:=x,body:=y,defers:=w.heap.size }:Loop)=rec
 have hnew:((w.alloc (.deferred (some []))).alloc (.loop rec)).heap[w.heap.size+1]? = some (.loop rec):=by
  have:=alloc_new (w:=w.alloc (.deferred (some []))) (g:=.loop rec);rwa [World.size_alloc] at this
 obtain ⟨r1,s1⟩:=r0.grow (g:=.loop rec) (w':=(w.alloc (.deferred (some []))).alloc (.loop rec)) rfl ⟨rfl,rfl,rfl⟩ (p:=⟨w.heap.size+1,0,0⟩) (by simp) (x:=.loop N tm ps.toList x y none)
  (.loop (r:=rec) hnew (by rw [<- hrec]) (by rw [<- hrec]) (by rw [<- hrec]) (by rw [<- hrec];exact ⟨rfl,rfl⟩) (by rw [<- hrec];exact hat.size) (by rw [<- hrec];exact hat.tm.ext (Phi.add_ext r0.fresh)))
 have s2:=s0.trans hat.rel s1;have hext:=s1.ext
 obtain ⟨g1,g2⟩:=hc.fn g _ (A++#[.func (.yield (w.heap.size+1)) #[] #[]]++C) _ _ _ _ (by
  rw [Array.toList_append,Array.toList_append,List.append_assoc];exact (hA.imp fun _ _ q=>(q.ext hext).toT).append ((L2.cons (RelB.toT (RelB.yl (p:=⟨w.heap.size+1,0,0⟩) (Phi.add_at _ _ _))) .nil).append (hC.imp fun _ _ q=>(q.ext hext).toT))) r1 hk
 have hd1:Dfs lo.n ((w.alloc (.deferred (some []))).alloc (.loop rec)) ({ target:=.collected w.heap.size,args:=#[] } :: act.defers):=by
  obtain ⟨d0,Ds,d1,d2,d3⟩:=hat.dfs;refine ⟨by simp;omega,w.heap.size :: Ds,by rw [d1];rfl,List.nodup_cons.2 ⟨fun hm=>?_,d2⟩,fun D hD=>?_⟩
  ·have:=(Array.getElem?_eq_some_iff.1 (d3 _ hm).2).1
   omega
  ·rcases List.mem_cons.1 hD with rfl | hD
   ·refine ⟨d0,?_⟩
    rw [alloc_old (by simp)];exact alloc_new
   ·have hl:=(Array.getElem?_eq_some_iff.1 (d3 _ hD).2).1
    refine ⟨(d3 _ hD).1,?_⟩;rw [alloc_old (by simp;omega),alloc_old hl];exact (d3 _ hD).2
 have henter:(Instr.enterLoop fn act.tmps ps x y none).run P w=.ok (w.heap.size+1,[{ target:=.collected w.heap.size,args:=#[] }]) ((w.alloc (.deferred (some []))).alloc (.loop rec)):=by
  rw [<- hrec];exact run_enterLoop_outer fn act.tmps ps x y
 refine ⟨w.heap.size+1,[{ target:=.collected w.heap.size,args:=#[] }],_,{ target:=.fn (.func g) C,args:=A++#[.func (.yield (w.heap.size+1)) #[] #[]] },_,g,_,_,henter,?_,fun _ _=>trivial,g1,fun q=>(by cases q),?_⟩
 ·have ec:∀ v,act.eval (.const v)=v:=fun _=>rfl
  simp [resolve,ef,Deferred.ofValue,ec]
 ·refine CallsIn.mono (callsIn_wide.2 g2) ?_
  rintro e w3 ⟨v,h2,ψ,c,k1,rfl,k3,k4,k5⟩;obtain ⟨h3,e3,k1⟩:=ob_allO k1;have hpl:=k5.ext _ _ (Phi.add_at φ h.n ⟨w.heap.size+1,0,0⟩);cases hb:h2.blk h.n <;> rw [hb] at k1 <;> first | exact False.elim k1 | skip
  rename_i N' tm' ps' x' y' pe;obtain ⟨l,l1,_,_,_,l5,_,_⟩:=loop_some k4 hpl hb
  have hbusy:l.state≠.busy:=by
   cases pe with
   | none=>rw [l5.1];simp
   | some e=>cases e with
    | normal=>exact l5.elim
    | exit i=>rw [l5.1];simp
    | ret=>rw [l5.1];simp
  have hend:=run_endLoop (P:=P) l1 hbusy;obtain ⟨r4,s4⟩:=k4.write (w':=w3.putObj (w.heap.size+1) (.loop { l with state:=.exhausted })) hpl (by rw [hb];rfl) e3 (by simp [World.putObj]) ⟨rfl,rfl,rfl⟩ (fun k hk=>World.putObj_heap_other hk) .gone;have hD4:=(hd1.step r1 k5).step k4 s4;have hall:=(s2.trans hat.rel k5).trans hat.rel s4
  have hat4:At N lo ψ tm h3 { act with defers:=[{ target:=.collected w.heap.size,args:=#[] }]++act.defers } (w3.putObj (w.heap.size+1) (.loop { l with state:=.exhausted })):=
   ⟨hat.tm.ext (s2.ext.trans k5.ext),hat.size,hD4,r4,hat.keep.1,fun ds hds=>by rw [hB rfl] at hds;cases hds⟩
  have hend':(Instr.endLoop (w.heap.size+1)).run P w3=.ok l.pending (w3.putObj (w.heap.size+1) (.loop { l with state:=.exhausted })):=hend;generalize w3.putObj (w.heap.size+1) (.loop { l with state:=.exhausted })=W4 at hend' hat4 hall;refine ⟨l.pending,W4,hend',?_⟩;cases pe with
  | none=>
   rw [l5.2];exact hq .normal tm h3 ψ _ _ k1 hat4 hall
  | some e=>cases e with
   | normal=>exact l5.elim
   | exit i=>rw [l5.2];exact wpIn_exit (hq (.exit i) tm h3 ψ _ _ k1 hat4 hall)
   | ret=>rw [l5.2];exact wpIn_ret (hq .ret tm h3 ψ _ _ k1 hat4 hall)
theorem comp_ok (hD:DrawOk P) (rf:Bool) (r:Option Nat) (hr:rf=true->r=none) (N:Nat):∀ c:Code,RcOk P rf r N (comp P rf N c) c
 | .skip=>skip_ok
 | .region id ops dr=>by
  cases dr with
  | true=>exact hD rf r N id ops
  | false=>exact region_ok
 | .seq a b=>seq_ok (comp_ok hD rf r hr N a) (comp_ok hD rf r hr N b)
 | .cond c a b=>cond_ok (comp_ok hD rf r hr N a) (comp_ok hD rf r hr N b)
 | .block id c=>block_ok (comp_ok hD rf r hr N c)
 | .loop c=>loop_ok (comp_ok hD rf r hr N c)
 | .rangeFunc f ps a b=>by
  cases rf with
  | true=>rw [hr rfl];exact rangeFunc_ok
  | false=>exact bad_ok _
 | .exit i=>exit_ok
 | .ret=>ret_ok
 | .scope _=>bad_ok _
 | .label _=>bad_ok _
 | .goto _=>bad_ok _
 | .refuse _=>bad_ok _
end
end Go.Proofs.YtcilaocknhphnaaGreat.Ev
namespace Go.Proofs.YtcilaocknhphnaaGreat.Ev
section
variable {P : Program} {φ : Phi} {h : H} {w w' : World}
theorem relX_of {x:AV} {v:Value} (h:RelT φ x v) (ht:isTupB x=false):RelX φ x v:=by
 cases h with
 | one h=>exact h
 | tup _=>cases ht
def resF (tmps:Array Value):ResultVar->Sem Value
 | .tmp t=>pure (tmps.getD t undef)
 | .cell a t=>do loadVar t (<- asAddr (tmps.getD a undef))
theorem results_eq (fn:Func) (tmps:Array Value):results fn tmps=(do
  let vs <- fn.results.mapM (resF tmps)
  pure (if h:vs.size=1 then vs[0] else .tuple vs)):=by
 unfold results
 congr 1
theorem resOne_ok (r:Rel φ h w) {tm:Tm} {tmps:Array Value} (ht:TmRel φ tm tmps) {v:AV}:∀ x:ResultVar,resOne P h tm x=some v ->
  ∃ c,(resF tmps x).run P w=.ok c w∧RelT φ v c
 | .tmp t,hv=>by cases hv;exact ⟨_,rfl,ht t⟩
 | .cell a t,hv=>by
  obtain ⟨b,o,e,hv⟩:=atPtr_some' hv;have ha:=ht a;rw [e] at ha;obtain ⟨p,hp,ea⟩:=relT_ptr ha;obtain ⟨c,h1,h2⟩:=loadVar_ok (P:=P) r.rl hp hv;exact ⟨c,by simp [resF,ea,asAddr,h1],h2.toT⟩
theorem resAll_ok (r:Rel φ h w) {tm:Tm} {tmps:Array Value} (ht:TmRel φ tm tmps):∀ (l:List ResultVar) (vs:List AV),resAll P h tm l=some vs ->
  ∃ cs:List Value,(l.mapM (resF tmps)).run P w=.ok cs w∧L2 (RelX φ) vs cs
 | [],vs,hv=>by cases hv;exact ⟨[],rfl,.nil⟩
 | x :: l,vs,hv=>by
  obtain ⟨v,h1,hv⟩:=ob_none_eq (show ob none (resOne P h tm x) _=some vs from hv);obtain ⟨h2,hv⟩:=iteB_some' hv;obtain ⟨us,h3,hv⟩:=ob_none_eq hv;cases hv;obtain ⟨c,g1,g2⟩:=resOne_ok (P:=P) r ht x h1;obtain ⟨cs,g3,g4⟩:=resAll_ok r ht l us h3;refine ⟨c :: cs,?_,.cons (relX_of g2 h2) g4⟩;simp only [List.mapM_cons,Sem.run_bind,g1,Result.andThen_ok,g3,Sem.run_pure]
theorem res_ok (r:Rel φ h w) {tm:Tm} {tmps:Array Value} (ht:TmRel φ tm tmps) {fn:Func} {v:AV} (hv:(resC P fn.results.toList).run h tm=some v):
  ∃ c,(results fn tmps).run P w=.ok c w∧RelT φ v c:=by
 have main:∀ vs,resAll P h tm fn.results.toList=some vs->v=packA vs->∃ c,(results fn tmps).run P w=.ok c w∧RelT φ v c:=by
  rintro vs h1 rfl;obtain ⟨cs,g1,g2⟩:=resAll_ok (P:=P) r ht _ _ h1;refine ⟨if h:cs.toArray.size=1 then cs.toArray[0] else .tuple cs.toArray,?_,?_⟩
  ·simp only [results_eq,Array.mapM_eq_mapM_toList,Sem.run_bind,Sem.run_map,g1,Result.andThen_ok,Sem.run_pure]
  ·cases g2 with
   | nil=>exact .tup .nil
   | cons a l=>cases l with
    | nil=>exact .one a
    | cons b l=>simp;exact .tup (.cons a (.cons b l))
 cases hl:fn.results.toList with
 | nil=>
  rw [hl] at hv;cases hv;exact main [] (by rw [hl];rfl) rfl
 | cons x l=>
  rw [hl] at hv;cases l with
  | nil=>
   cases x with
   | tmp t=>
    cases hv;have:fn.results=#[.tmp t]:=by rw [<- Array.toList_inj];exact hl
    exact ⟨tmps.getD t undef,by simp [results_eq,resF,this],ht t⟩
   | cell a t=>
    obtain ⟨vs,h1,h2⟩:=ob_none_eq (show ob none (resAll P h tm [.cell a t]) (fun l=>some (packA l))=some v from hv);cases h2;exact main vs (by rw [hl];exact h1) rfl
  | cons y l=>
   obtain ⟨vs,h1,h2⟩:=ob_none_eq (show ob none (resAll P h tm (x :: y :: l)) (fun l=>some (packA l))=some v from (by cases x <;> exact hv));cases h2;exact main vs (by rw [hl];exact h1) rfl
theorem argsT_acc:∀ (args:List AV) (i:Nat) (tm:Tm) (t:Nat),(acc AV.bad t).run (argsT args i tm)=if i<=t∧t < i+args.length then (args[t - i]?).getD .bad else (acc AV.bad t).run tm
 | [],i,tm,t=>by
  rw [if_neg (by rintro ⟨h1,h2⟩;simp at h2;omega)];rfl
 | a :: l,i,tm,t=>by
  show (acc AV.bad t).run (argsT l (i+1) ((upd AV.bad i).run tm a))=_;rw [argsT_acc l,acc_upd];by_cases e:t=i
  ·subst e
   rw [if_neg (by omega),if_pos rfl,if_pos (by simp)];simp
  ·by_cases hlt:i+1<=t∧t < i+1+l.length
   ·rw [if_pos hlt,if_pos (by simp;omega)]
    rw [show t - i=(t - (i+1))+1 by omega];simp
   ·rw [if_neg hlt,if_neg e,if_neg (by simp;omega)]
theorem argsT_rel {args:List AV} {A:Array Value} (ha:L2 (RelT φ) args A.toList) (k:Nat):TmRel φ (argsT args 0 .lf) (A++Array.replicate k undef):=fun t=>by
 rw [argsT_acc,acc_lf];have hl:=ha.length;rw [Array.length_toList (xs:=A)] at hl;rw [Array.getD_eq_getD_getElem?];by_cases ht:t < args.length
 ·rw [if_pos (by omega),Array.getElem?_append_left (by omega),Nat.sub_zero]
  obtain ⟨c,h1,h2⟩:=ha.get (List.getElem?_eq_getElem ht);rw [Array.getElem?_toList] at h1;rw [h1,List.getElem?_eq_getElem ht];exact h2
 ·rw [if_neg (by omega),Array.getElem?_append_right (by omega)]
  have:((Array.replicate k undef)[t - A.size]?).getD undef=undef:=by
   rw [Array.getElem?_replicate];split <;> rfl
  rw [this];exact relT_undef
theorem setAll_rel {N:Nat}:∀ (ps:List Tmp) (args:List AV) (A:List Value) (tm tm':Tm) (tmps:Array Value),L2 (RelT φ) args A->setAll N ps args tm=some tm'->N<=tmps.size->TmRel φ tm tmps ->
  ps.length=A.length∧TmRel φ tm' ((ps.zip A).foldl (fun tmps (p:Tmp × Value)=>tmps.setIfInBounds p.1 p.2) tmps)∧N<=((ps.zip A).foldl (fun tmps (p:Tmp × Value)=>tmps.setIfInBounds p.1 p.2) tmps).size
 | [],_,_,tm,tm',tmps,ha,hs,hN,ht=>by
  cases ha with
  | nil=>cases hs;exact ⟨rfl,ht,hN⟩
  | cons _ _=>cases hs
 | p :: ps,_,_,tm,tm',tmps,ha,hs,hN,ht=>by
  cases ha with
  | nil=>cases hs
  | cons hr ha=>
   rename_i a v l m;obtain ⟨h1,h2⟩:=iteB_some (show iteB (Nat.blt p N) (setAll N ps l ((upd AV.bad p).run tm a)) none=some tm' from hs);obtain ⟨q1,q2,q3⟩:=put_rel (a:=⟨tmps,[]⟩) (dst:=some p) (v:=a) (cv:=v) h1 hN ht hr;obtain ⟨g1,g2,g3⟩:=setAll_rel ps l m _ tm' (tmps.setIfInBounds p v) ha h2 q2 q1;exact ⟨by simp [g1],g2,g3⟩
theorem takes_ok {F:Fence} {n:Nat} {fn:Func} {tmps:Array Value} {R:Ending->World->Prop}:∀ (Ds:List Nat) (W:World),Ds.Nodup->(∀ D∈Ds,W.heap[D]? = some (.deferred (some []))) ->
  (∀ W',Even W W'->W'.heap.size=W.heap.size->(∀ k,k ∉ Ds->W'.heap[k]? = W.heap[k]?)->LeavesInM F n P fn tmps R [] .returning W')->LeavesInM F n P fn tmps R (Ds.map fun D=>{ target:=.collected D,args:=#[] }) .returning W
 | [],W,_,_,h=>h W ⟨rfl,rfl,rfl⟩ rfl fun _ _=>rfl
 | D :: Ds,W,hn,hd,h=>by
  refine ⟨by simp,.inl ⟨D,_,rfl,run_takeDeferred (hd D List.mem_cons_self),?_⟩⟩;rw [List.nodup_cons] at hn;refine takes_ok Ds _ hn.2 (fun E hE=>?_) (fun W' hv hs hc=>h W' ⟨hv.os,hv.tape,hv.output⟩ (by rw [hs];simp) fun k hk=>?_)
  ·rw [World.putObj_heap_other (show E≠D from fun e=>hn.1 (by rw [<- e];exact hE))];exact hd E (List.mem_cons_of_mem _ hE)
  ·rw [hc k fun q=>hk (List.mem_cons_of_mem _ q),World.putObj_heap_other (fun e=>hk (by rw [e];exact List.mem_cons_self))]
theorem body_ok (hD:DrawOk P) {call:CallF} (hc:CallOk P call) {f:FuncId} {fn:Func} (hf:P.funcs[f]? = some fn) {args:List AV} {A:Array Value} {K:AV->H->Prop} (ha:L2 (RelT φ) args A.toList) (r:Rel φ h w)
  (hk:((bodyC P fn).run call args h).all K):fn.body.isSome=true∧Calls P f A w (CallPost φ h w K):=by
 unfold bodyC at hk;cases hb:fn.body with
 | none=>rw [hb] at hk;exact False.elim hk
 | some c=>
  rw [hb] at hk;refine ⟨rfl,?_⟩;have hk:=O3.all_bndV (show (((comp P true fn.ntmps c).run call (argsT args 0 .lf) h).bndV fun e tm h=>endE e (ob .no ((resC P fn.results.toList).run h tm) fun v=>.one v h)).all K from hk);refine (callsIn_wide (n:=0)).1 (callsIn_of_wp_marks hf hb trivial ?_ rfl)
  have hat:At fn.ntmps ⟨w.heap.size,(A++Array.replicate (fn.ntmps - A.size) undef).size,none⟩ φ (argsT args 0 .lf) h { tmps:=A++Array.replicate (fn.ntmps - A.size) undef,defers:=[] } w:=
   ⟨argsT_rel ha _,by simp;omega,⟨Nat.le_refl _,[],rfl,List.nodup_nil,by simp⟩,r,rfl,fun ds hds=>by cases hds⟩
  refine comp_ok hD true none (fun _=>rfl) fn.ntmps c 0 call hc _ (fun _=>rfl) φ _ h _ w _ (bodyPostM Fence.wide 0 P fn (CallPost φ h w K)) hat hk ?_;intro e tm' h' ψ a' w' k1 k2 k3
  have fin:(ob V2.no ((resC P fn.results.toList).run h' tm') fun v=>.one v h').all K->LeavesInM Fence.wide 0 P fn a'.tmps (CallPost φ h w K) a'.defers .returning w':=by
   intro k1;obtain ⟨v,hv,k1⟩:=ob_all k1;obtain ⟨d0,Ds,d1,d2,d3⟩:=k2.dfs;rw [d1];refine takes_ok Ds w' d2 (fun D hD=>(d3 D hD).2) fun W' hv' hs hch=>?_;have hsame:∀ k,k < w.heap.size->W'.heap[k]? = w'.heap[k]?:=fun k hk=>hch k fun q=>by have:w.heap.size<=k:=(d3 k q).1;omega
   have r':Rel ψ h' W':=k2.rel.defs (by omega) fun k o ho hdef=>by
    rw [hch k ?_];exact ho;intro q;rw [(d3 k q).2] at ho;cases ho;cases hdef
   obtain ⟨c,g1,g2⟩:=res_ok (P:=P) r' k2.tm hv;refine ⟨c,g1,v,h',ψ,c,k1,rfl,g2,r',?_⟩;exact ⟨k3.ext,k3.n,k3.lo,k3.old,k3.gone,⟨hv'.os.trans k3.ch.os,hv'.tape.trans k3.ch.tape,hv'.output.trans k3.ch.output,by have:=k3.ch.size;omega,fun k hk hw=>(hsame k hk).trans (k3.ch.block k hk hw)⟩,k3.dom⟩
  cases e with
  | normal=>exact fin k1
  | exit i=>exact False.elim k1
  | ret=>exact fin k1
end
end Go.Proofs.YtcilaocknhphnaaGreat.Ev
namespace Go.Proofs.YtcilaocknhphnaaGreat.Ev
section
variable {P : Program} {φ : Phi} {h : H} {w w' : World}
theorem Rel.revive {χ:Phi} {h4 h5:H} {w4 w5:World} (r0:Rel φ h w) (s:Stp φ h w χ h4 w4) (r4:Rel χ h4 w4) {l:Nat} {p:Pl} (hp:φ l=some p) (ha:(h.blk l).alive=true)
  (hno:∀ c q,χ c=some q->(h4.blk c).alive=true->q.b≠p.b) {x:Blk} (hput:h4.put l x=some h5) (hsz:w5.heap.size=w4.heap.size) (v:Even w4 w5) (ho:∀ k,k≠p.b->w5.heap[k]? = w4.heap[k]?)
  (hx:BlkOk χ h4.lo w5 p x):Rel χ h5 w5∧Stp φ h w χ h5 w5:=by
 obtain ⟨hlo,hblk,hn,hl⟩:=H.put_some hput;have hpx:=s.ext _ _ hp;have hlo0:h.lo<=l:=by have:=s.lo;omega
 have hln:=r0.dom l p hp
 have hcase:∀ c,(h5.blk c).alive=true->c=l∨(c≠l∧(h4.blk c).alive=true):=fun c hc=>by
  by_cases e:c=l
  ·exact .inl e
  ·rw [hblk,if_neg e] at hc;exact .inr ⟨e,hc⟩
 have hlow:∀ b q,b < h.lo->χ b=some q->q.b≠p.b:=fun b q hb hq=>by
  rcases s.dom b q hq with e | ⟨e,_⟩
  ·exact r0.low b l q p hb hlo0 e hp ha
  ·have:=r0.le;omega
 refine ⟨⟨fun c q hq=>?_,fun c d q t hq ht ac ad hcd=>?_,fun c d q t hc hd hq ht ad=>?_,fun c q hq=>by rw [hn];exact r4.dom c q hq,fun c q hq=>by rw [hsz];exact r4.inw c q hq,fun c hc=>?_,by rw [hl,hn];exact r4.le⟩,
  ⟨s.ext,by rw [hn];exact s.n,hl.trans s.lo,fun c hc=>?_,fun c hc hq=>?_,⟨v.os.trans s.ch.os,v.tape.trans s.ch.tape,v.output.trans s.ch.output,by rw [hsz];exact s.ch.size,fun k hk hw=>?_⟩,s.dom⟩⟩
 ·rw [hblk,hl]
  split
  ·rename_i e;subst e;rw [hpx] at hq;cases hq;exact hx
  ·rename_i hcl
   cases hca:(h4.blk c).alive with
   | false=>
    have:h4.blk c=.gone:=by cases e:h4.blk c <;> rw [e] at hca <;> first | rfl | cases hca
    rw [this];exact .gone
   | true=>exact (r4.blk c q hq).same (ho _ (hno c q hq hca)) fun m pm hm hpm=>ho _ (hlow m pm (by have:=s.lo;omega) hpm)
 ·rcases hcase c ac with rfl | ⟨e1,a1⟩ <;> rcases hcase d ad with rfl | ⟨e2,a2⟩
  ·rfl
  ·rw [hpx] at hq;cases hq;exact absurd hcd.symm (hno d t ht a2)
  ·rw [hpx] at ht;cases ht;exact absurd hcd (hno c q hq a1)
  ·exact r4.inj c d q t hq ht a1 a2 hcd
 ·rcases hcase d ad with rfl | ⟨e2,a2⟩
  ·rw [hpx] at ht;cases ht;exact hlow c q (by have:=s.lo;omega) hq
  ·exact r4.low c d q t (by omega) (by omega) hq ht a2
 ·rw [hblk,if_neg (by have:=s.n;omega)];exact r4.new c (by omega)
 ·rw [hblk,if_neg (by omega)];exact s.old c hc
 ·rcases hcase c hq with rfl | ⟨_,a⟩
  ·exact ha
  ·exact s.gone c hc a
 ·rw [ho k ?_]
  ·exact s.ch.block k hk hw
  ·rintro rfl
   exact hw ⟨l,p,hlo0,hp,rfl,ha⟩
theorem round_ok (hD:DrawOk P) {call:CallF} (hc:CallOk P call) {l:Nat} {p:Pl} {args:List AV} {A:Array Value} {K:AV->H->Prop} (hp:φ l=some p) (ha:L2 (RelT φ) args A.toList) (r:Rel φ h w)
  (hk:(roundA P call l args h (h.blk l)).all K):
  ∃ f tmps a b,(Instr.yield p.b A).run P w=.ok (.round p.b f tmps a b) w∧RoundIn Fence.wide 0 P p.b f tmps a b w (CallPost φ h w K):=by
 cases hb:h.blk l <;> rw [hb] at hk <;> first | exact False.elim hk | skip
 rename_i N tm ps a b pe;cases pe with
 | some e=>exact False.elim hk
 | none=>
  obtain ⟨lp,l1,l2,l3,l4,l5,l6,l7⟩:=loop_some r hp hb;obtain ⟨tm1,h1,hk⟩:=ob_all hk;have hk:=O3.all_bndV hk;obtain ⟨g1,g2,g3⟩:=setAll_rel ps args A.toList tm tm1 lp.tmps ha h1 l6 l7;rw [Array.length_toList (xs:=A)] at g1;have hy:=run_yield (P:=P) l1 (args:=A) (by rw [l2];simp [g1])
  have hz:(lp.params.zip A).foldl (fun tmps (x:Tmp × Value)=>tmps.setIfInBounds x.1 x.2) lp.tmps=(ps.zip A.toList).foldl (fun tmps (x:Tmp × Value)=>tmps.setIfInBounds x.1 x.2) lp.tmps:=by
   rw [l2,<- Array.foldl_toList,Array.toList_zip]
  refine ⟨lp.fn,_,lp.assign,lp.body,hy,?_⟩;have e:(lp.params.zip A).foldl (fun tmps x=>match x with | (t,a)=>tmps.setIfInBounds t a) lp.tmps=(ps.zip A.toList).foldl (fun tmps (x:Tmp × Value)=>tmps.setIfInBounds x.1 x.2) lp.tmps:=hz;rw [e,l3,l4];refine roundIn_of_wpIn trivial ?_
  have hat:At N ⟨w.heap.size,((ps.zip A.toList).foldl (fun tmps (x:Tmp × Value)=>tmps.setIfInBounds x.1 x.2) lp.tmps).size,none⟩ φ tm1 h { tmps:=(ps.zip A.toList).foldl (fun tmps (x:Tmp × Value)=>tmps.setIfInBounds x.1 x.2) lp.tmps,defers:=[] } w:=
   ⟨g2,g3,⟨Nat.le_refl _,[],rfl,List.nodup_nil,by simp⟩,r,rfl,fun ds hds=>by cases hds⟩
  refine comp_ok hD false (some p.b) (fun q=>by cases q) N a 0 call hc _ (fun q=>by cases q) φ tm1 h _ w _ _ hat hk ?_;intro e tm2 h2 ψ a2 w2 k1 k2 k3;cases e with
  | exit i=>exact False.elim k1
  | ret=>exact False.elim k1
  | normal=>
   have k1:(roundB P call l N b tm2 h2 (h2.blk l)).all K:=k1;cases hb2:h2.blk l <;> rw [hb2] at k1 <;> first | exact False.elim k1 | skip
   rename_i N' tm' ps' a' b' pe;cases pe with
   | some e=>exact False.elim k1
   | none=>
    obtain ⟨h3,hp3,k1⟩:=ob_all k1;have k1:=O3.all_bndV k1;have hpl:=k3.ext _ _ hp;obtain ⟨lq,m1,m2,m3,m4,m5,m6,m7⟩:=loop_some k2.rel hpl hb2;have hbr:=run_beginRound (P:=P) m1 m5.1;refine ⟨_,hbr,?_⟩;have hpb:=(Array.getElem?_eq_some_iff.1 m1).1;obtain ⟨r3,s3⟩:=k2.rel.write (w':=w2.putObj p.b (.loop { lq with state:=.busy })) hpl (by rw [hb2];rfl) hp3 (by simp) ⟨rfl,rfl,rfl⟩ (fun k hk=>World.putObj_heap_other hk) .gone;have hat3:At N ⟨w.heap.size,((ps.zip A.toList).foldl (fun tmps (x:Tmp × Value)=>tmps.setIfInBounds x.1 x.2) lp.tmps).size,none⟩ ψ tm2 h3 a2 (w2.putObj p.b (.loop { lq with state:=.busy })):=⟨k2.tm,k2.size,k2.dfs.step k2.rel s3,r3,k2.keep⟩;obtain ⟨hlo3,hblk3,hn3,hl3⟩:=H.put_some hp3
    have hno3:¬ Wr ψ h3 p.b:=by
     rintro ⟨c,q,_,hq,hqb,hca⟩;rw [hblk3] at hca;split at hca
     ·cases hca
     ·rename_i hcl
      exact hcl (k2.rel.inj c l q p hq hpl hca (by rw [hb2];rfl) hqb)
    refine comp_ok hD false (some p.b) (fun q=>by cases q) N b 0 call hc _ (fun q=>by cases q) ψ tm2 h3 a2 _ _ _ hat3 k1 ?_;intro e tm4 h4 χ a4 w4 j1 j2 j3
    have hbusy:w4.heap[p.b]? = some (.loop { lq with state:=.busy }):=by
     rw [j3.ch.block p.b (by simpa using hpb) hno3];exact World.putObj_heap_same hpb
    have hno4:∀ c q,χ c=some q->(h4.blk c).alive=true->q.b≠p.b:=fun c q hq hca hqb=>by
     rcases j3.dom c q hq with e | ⟨e,e'⟩
     ·have hc3:=j3.gone c (r3.dom c q e) hca
      rw [hblk3] at hc3;split at hc3
      ·cases hc3
      ·rename_i hcl
       exact hcl (k2.rel.inj c l q p e hpl hc3 (by rw [hb2];rfl) hqb)
     ·rcases e' with e' | e'
      ·rw [hqb] at e';simp at e';omega
      ·rw [hqb] at e';exact hno3 e'
    have sall:=(k3.trans r s3).trans r j3;have hla:(h.blk l).alive=true:=by rw [hb];rfl
    have fin:∀ (jump:Option Code) (pe:Option Ex) (h5:H),h4.put l (.loop N' tm' ps' a' b' pe)=some h5->pendOk pe (if jump.isNone then .ready else .done) jump->K (.bool jump.isNone) h5 ->
      ∃ v w',(Instr.endRound p.b jump).run P w4=.ok v w'∧CallPost φ h w K (.returned v) w':=by
     intro jump pe h5 hput hpe hK;have hend:=run_endRound (P:=P) jump hbusy;refine ⟨_,_,hend,.bool jump.isNone,h5,χ,_,hK,rfl,RelB.toT (.bool _),?_⟩;have hpb4:=(Array.getElem?_eq_some_iff.1 hbusy).1
     exact r.revive sall j2.rel hp hla hno4 hput (by simp) ⟨rfl,rfl,rfl⟩ (fun k hk=>World.putObj_heap_other hk)
      (.loop (World.putObj_heap_same hpb4) m2 m3 m4 hpe m6 (m7.ext (s3.ext.trans j3.ext)))
    cases e with
    | normal=>obtain ⟨h5,q1,q2⟩:=ob_all j1;exact fin none none h5 q1 ⟨rfl,rfl⟩ q2
    | exit i=>obtain ⟨h5,q1,q2⟩:=ob_all j1;exact fin (some (.exit i)) (some (.exit i)) h5 q1 ⟨rfl,rfl⟩ q2
    | ret=>obtain ⟨h5,q1,q2⟩:=ob_all j1;exact fin (some .ret) (some .ret) h5 q1 ⟨rfl,rfl⟩ q2
end
end Go.Proofs.YtcilaocknhphnaaGreat.Ev
namespace Go.Proofs.YtcilaocknhphnaaGreat.Ev
section
variable {P : Program} {φ ψ : Phi} {h : H} {w w' : World}
theorem plain_B {x:AV} {v:Value} (hp:plainC x=true) (h:RelB ψ x v):RelB φ x v:=by
 cases h <;> first | (cases hp;done) | skip
 ·exact .bool _
 ·exact .int _ _
 ·exact .str _
 ·exact .nilp
 ·exact .nils
 ·exact .nilm
 ·exact .nilf
theorem plain_S {x:AV} {v:Value} (hp:plainC x=true) (h:RelS ψ x v):RelS φ x v:=by
 cases h with
 | base h=>exact .base (plain_B hp h)
 | fn _ _=>cases hp
theorem plain_X {x:AV} {v:Value} (hp:plainC x=true) (h:RelX ψ x v):RelX φ x v:=by
 cases h with
 | bad=>cases hp
 | junk _=>cases hp
 | val h=>cases h with
  | cell h=>exact .val (.cell (plain_S hp h))
  | agg _=>cases hp
theorem plain_T {x:AV} {v:Value} (hp:plainC x=true) (h:RelT ψ x v):RelT φ x v:=by
 cases h with
 | one h=>exact .one (plain_X hp h)
 | tup _=>cases hp
theorem plain_L:∀ {l:List AV} {m:List Value},allB plainC l=true->L2 (RelX ψ) l m->L2 (RelX φ) l m
 | [],_,_,h=>by cases h;exact .nil
 | x :: l,_,hp,h=>by
  cases h with
  | cons a b=>
   rw [allB_iff] at hp;exact .cons (plain_X (hp x (by simp)) a) (plain_L (allB_iff.2 fun y hy=>hp y (by simp [hy])) b)
theorem sameQ_eq {a b:Q} (h:sameQ a b=true):a=b:=by
 obtain ⟨h1,h2⟩:=andB_iff.1 h;obtain ⟨h2,h3⟩:=andB_iff.1 h2;obtain ⟨v,t,cs⟩:=a;obtain ⟨v',t',cs'⟩:=b;have e1:v=v':=sameV_eq h1;have e2:t=t':=Nat.eq_of_beq_eq_true h2;have e3:cs=cs':=sameL_eq h3;rw [e1,e2,e3]
theorem allQ_all {n:Nat}:∀ {x:V2} {q:Q},allQ n x=some q->x.all fun v h=>normQ n v h=some q
 | .no,_,h=>by cases h
 | .one _ _,_,h=>h
 | .alt x y,q,h=>by
  obtain ⟨a,h1,h⟩:=ob_none_eq (show ob none (allQ n x) _=some q from h);obtain ⟨b,h2,h⟩:=ob_none_eq h;obtain ⟨h3,h⟩:=iteB_some h;cases h;have:=sameQ_eq h3;subst this;exact ⟨allQ_all h1,allQ_all h2⟩
theorem BlkOk.wide {lo lo':Nat} {p:Pl} {x:Blk} (r:BlkOk φ lo w p x) (h:lo<=lo'):BlkOk φ lo' w p x:=by
 cases r with
 | row h1 h2 h3 h4=>exact .row h1 h2 h3 h4
 | map h1 h2 h3 h4=>exact .map h1 h2 h3 h4
 | iter h0 h1 h2 h3 h4 h5 h6 h7=>exact .iter (Nat.lt_of_lt_of_le h0 h) h1 h2 h3 h4 h5 h6 h7
 | loop h1 h2 h3 h4 h5 h6 h7=>exact .loop h1 h2 h3 h4 h5 h6 h7
 | gone=>exact .gone
theorem Rel.shut {t:T Blk} {n lo:Nat} (r:Rel φ ⟨t,n,lo⟩ w):Rel φ ⟨t,n,n⟩ w where
 blk b p hp:=(r.blk b p hp).wide r.le
 inj:=r.inj
 low b c p q hb hc hp hq ac:=absurd (r.dom c q hq) (by show ¬ c < n;have hc:n<=c:=hc;omega)
 dom:=r.dom
 inw:=r.inw
 new:=r.new
 le:=Nat.le_refl _
theorem Rel.still (r:Rel φ h w) (hsz:w.heap.size<=w'.heap.size) (ho:∀ k,k < w.heap.size->w'.heap[k]? = w.heap[k]?):Rel φ h w' where
 blk b p hp:=(r.blk b p hp).same (ho _ (r.inw b p hp)) fun m pm _ hm=>ho _ (r.inw m pm hm)
 inj:=r.inj
 low:=r.low
 dom:=r.dom
 inw b p hp:=Nat.lt_of_lt_of_le (r.inw b p hp) hsz
 new:=r.new
 le:=r.le
theorem quiet_back {t:T Blk} {n lo:Nat} {h2:H} {v:AV} {q:Q} {c:Value} {K:AV->H->Prop} (r:Rel φ ⟨t,n,lo⟩ w) (hq:normQ n v h2=some q) (hv:RelT ψ v c) (r2:Rel ψ h2 w') (s:Stp φ ⟨t,n,n⟩ w ψ h2 w') (hk:(layQ ⟨t,n,lo⟩ q).all K):
  CallPost φ ⟨t,n,lo⟩ w K (.returned c) w':=by
 have hnw:∀ k,¬ Wr φ ⟨t,n,n⟩ k:=by
  rintro k ⟨b,p,hb,hp,_,_⟩;have:=r.dom b p hp;have hb:n<=b:=hb;have:b < n:=this;omega
 have hold:∀ k,k < w.heap.size->w'.heap[k]? = w.heap[k]?:=fun k hk=>s.ch.block k hk (hnw k);have hev:Even w w':=⟨s.ch.os,s.ch.tape,s.ch.output⟩;have rk:=r.still s.ch.size hold;have sk:Stp φ ⟨t,n,lo⟩ w φ ⟨t,n,lo⟩ w':=Stp.defs s.ch.size hev hold
 have pl:∀ v,plainC v=true->RelT ψ v c->(∀ b o m cc ex,v≠.sl b o m cc ex)->some (⟨v,0,[]⟩:Q)=some q->CallPost φ ⟨t,n,lo⟩ w K (.returned c) w':=by
  intro v hp hv hne hq;cases hq;have:layQ ⟨t,n,lo⟩ ⟨v,0,[]⟩=.one v ⟨t,n,lo⟩:=by cases v <;> first | rfl | exact absurd rfl (hne _ _ _ _ _)
  rw [this] at hk;exact ⟨v,_,φ,c,hk,rfl,plain_T hp hv,rk,sk⟩
 have gen:∀ v,(∀ b o m cc ex,v≠.sl b o m cc ex)->RelT ψ v c->iteB (plainC v) (some (⟨v,0,[]⟩:Q)) none=some q->CallPost φ ⟨t,n,lo⟩ w K (.returned c) w':=by
  intro v hne hv hq;obtain ⟨h1,h2⟩:=iteB_some hq;exact pl v h1 hv hne h2
 cases v
 case sl b o m cc ex=>
  obtain ⟨h1,hq⟩:=iteB_some (show iteB (andB (not (Nat.beq ex 0)) (andB (Nat.ble n b) (Nat.beq o 0))) (ob none (h2.row b) fun q=>iteB (allB plainC q) (some ⟨.sl n 0 m cc ex,typeRow (h2.blk b),q⟩) none) none=some q from hq);obtain ⟨h1,h3⟩:=andB_iff.1 h1;obtain ⟨h3,h4⟩:=andB_iff.1 h3;obtain ⟨cs,hrow,hq⟩:=ob_none_eq hq;obtain ⟨hpl,hq⟩:=iteB_some hq;cases hq;have h3:=Nat.le_of_ble_eq_true h3;have h4:=Nat.eq_of_beq_eq_true h4;subst h4;obtain ⟨p,off,C,hp,rfl,g1,g2,g3,g4,g5⟩:=relT_sl hv;obtain ⟨D,T,ra⟩:=row_some r2.rl hp hrow
  have hnew:w.heap.size<=p.b:=by
   rcases s.dom b p hp with e | ⟨_,e | e⟩
   ·have:b < n:=r.dom b p e
    omega
   ·exact e
   ·exact absurd e (hnw _)
  obtain ⟨r5,s5⟩:=r.adopt hold hev hnew (r2.inw b p hp) (x:=.row (typeRow (h2.blk b)) cs) (.row ra.obj ra.room ra.len fun i x hx=>by
   obtain ⟨u,u1,u2⟩:=ra.cell i x hx;exact ⟨u,u1,plain_S ((allB_iff.1 hpl) x (List.mem_of_getElem? hx)) u2⟩)
  exact ⟨_,_,_,_,hk,rfl,RelB.toT (.sl (Phi.add_at _ _ _) g1 g2 g3 g4 g5),r5,s5⟩
 case tup l=>
  obtain ⟨hpl,hq⟩:=iteB_some (show iteB (allB plainC l) (some (⟨.tup l,0,[]⟩:Q)) none=some q from hq);cases hq;obtain ⟨vs,rfl,hl⟩:=relT_tup hv;exact ⟨.tup l,_,φ,_,hk,rfl,.tup (plain_L hpl hl),rk,sk⟩
 all_goals exact gen _ (by intros;simp) hv hq
theorem quiet_ok {f:H->V2} {g:FuncId} {A:Array Value} {K:AV->H->Prop} (r:Rel φ h w) (hf:∀ h' K',Rel φ h' w->(f h').all K'->Calls P g A w (CallPost φ h' w K')) (hk:(quiet f h).all K):Calls P g A w (CallPost φ h w K):=by
 obtain ⟨t,n,lo⟩:=h;obtain ⟨q,hq,hk⟩:=ob_all (show (ob V2.no (allQ n (f ⟨t,n,n⟩)) fun q=>layQ ⟨t,n,lo⟩ q).all K from hk);have h1:=hf ⟨t,n,n⟩ _ r.shut (allQ_all hq);refine (callsIn_wide (n:=0)).1 (CallsIn.mono (callsIn_wide.2 h1) ?_);rintro e w' ⟨v,h2,ψ,c,k1,rfl,k3,k4,k5⟩;exact quiet_back r k1 k3 k4 k5 hk
theorem fcall_ok (hD:DrawOk P) (hP:∀ (f:Nat) (fn:Func),P.funcs[f]? = some fn->fn.body.isSome=true->fn.name≠"runtime.NumGoroutine") (qs:List Nat):∀ n,CallOk P (fcall P qs n)
 | 0=>⟨fun _ _ _ _ _ _ _ _ _ hk=>False.elim hk,fun _ _ _ _ _ _ _ _ _ _ _ hk=>False.elim hk⟩
 | n+1=>by
  have ih:=fcall_ok hD hP qs n;refine ⟨fun f args A φ h w K ha r hk=>?_,fun l args p A φ h w K hp ha r hk=>round_ok hD ih hp ha r hk⟩;have hk:((fnC P qs f).run (fcall P qs n) args h).all K:=hk;unfold fnC at hk;cases hf:atL f P.funcs.toList with
  | none=>rw [hf] at hk;exact False.elim hk
  | some fn=>
   rw [hf] at hk;have hf:=atL_some hf;rw [Array.getElem?_toList] at hf;have hk:((iteB (memN f qs) (⟨fun call args h=>quiet ((bodyC P fn).run call args) h⟩:FnC) (bodyC P fn)).run (fcall P qs n) args h).all K:=hk
   have key:fn.body.isSome=true∧Calls P f A w (CallPost φ h w K):=by
    cases hm:memN f qs with
    | true=>
     rw [hm] at hk;have hk:(quiet ((bodyC P fn).run (fcall P qs n) args) h).all K:=hk
     have hb:fn.body.isSome=true:=by
      cases hb:fn.body with
      | some _=>rfl
      | none=>
       obtain ⟨t,m,lo⟩:=h;obtain ⟨q,hq,_⟩:=ob_all (show (ob V2.no (allQ m ((bodyC P fn).run (fcall P qs n) args ⟨t,m,m⟩)) fun q=>layQ ⟨t,m,lo⟩ q).all K from hk);unfold bodyC at hq;rw [hb] at hq;cases hq
     exact ⟨hb,quiet_ok r (fun h' K' r' hk'=>(body_ok hD ih hf ha r' hk').2) hk⟩
    | false=>rw [hm] at hk;exact body_ok hD ih hf ha r hk
   refine ⟨?_,key.2⟩;have hn:=hP f fn hf key.1;obtain ⟨c,hcb⟩:=Option.isSome_iff_exists.1 key.1;simp [callFunc,hf,hn,hcb]
theorem rel_H0 (w:World):Rel (fun _=>none) H0 w where
 blk b p hp:=by cases hp
 inj b c p q hp:=by cases hp
 low b c p q _ _ hp:=by cases hp
 dom b p hp:=by cases hp
 inw b p hp:=by cases hp
 new b _:=by show (acc Blk.gone b).run .lf=.gone;rw [acc_lf]
 le:=Nat.le_refl _
theorem told_ok (hD:DrawOk P) (hP:∀ (f:Nat) (fn:Func),P.funcs[f]? = some fn->fn.body.isSome=true->fn.name≠"runtime.NumGoroutine") {qs:List Nat} {n f:Nat} (h:told (fcall P qs n [f] [] H0)=true) (w:World):
  Calls P f #[] w fun e w'=>e=.returned (.bool true)∧Ch (fun _=>False) w w':=by
 have hk:(fcall P qs n [f] [] H0).all fun v _=>isTrueV v=true:=by
  cases hx:fcall P qs n [f] [] H0 with
  | no=>rw [hx] at h;cases h
  | one v h'=>rw [hx] at h;exact h
  | alt _ _=>rw [hx] at h;cases h
 obtain ⟨_,h1⟩:=(fcall_ok hD hP qs n).fn f [] #[] (fun _=>none) H0 w _ .nil (rel_H0 w) hk;refine (callsIn_wide (n:=0)).1 (CallsIn.mono (callsIn_wide.2 h1) ?_);rintro e w' ⟨v,h',ψ,c,k1,rfl,k3,k4,k5⟩;cases v <;> first | (cases k1;done) | skip
 have k1:_=true:=k1;subst k1;cases relT_bool k3;exact ⟨rfl,k5.ch.mono fun k _ hw=>by obtain ⟨b,p,_,hp,_⟩:=hw;cases hp⟩
end
end Go.Proofs.YtcilaocknhphnaaGreat.Ev
namespace Go.Proofs.YtcilaocknhphnaaGreat.Ev
section
variable {P : Program} {φ : Phi} {h : H} {w w' : World}
theorem wpIn_exists {r:Option Nat} {n:Nat} {o:Oper} {a:Act} {w:World} {next:Act->World->Prop} (h:o.wpIn (FR r) n P a w next (fun _ _ _=>False)):∃ a' w',next a' w':=by
 have hroom:∀ k,(FR r).room k:=fun k d hd=>by cases hd
 obtain ⟨_,h⟩:=h;generalize (o.semAt (FR r).round a.eval).run P w=res at h;cases res with
 | ok x w'=>
  cases x <;> simp only [Oper.uponIn] at h
  case value v=>exact ⟨_,_,h⟩
  case skip=>exact ⟨_,_,h⟩
  case defer d=>exact ⟨_,_,h⟩
  case enter f args=>
   obtain ⟨e,w'',fr,hR,_⟩:=h.2.2 [] (hroom _);cases e with
   | returned v=>exact ⟨_,_,hR⟩
   | panicked c=>exact hR.elim
   | outgrown=>obtain ⟨_,_,q⟩:=hR;exact q.elim
  case row f args=>
   obtain ⟨v,w'',hR,_⟩:=h.2 default [] (hroom _);exact ⟨_,_,hR⟩
  case round l f tmps x y=>
   obtain ⟨e,w'',hR,_⟩:=h.2.2 default [] (hroom _);cases e with
   | returned v=>exact ⟨_,_,hR⟩
   | panicked c=>exact hR.elim
   | outgrown=>obtain ⟨_,_,q⟩:=hR;exact q.elim
  all_goals exact h.elim
 | halt x w'=>cases x <;> simp only [Oper.uponIn] at h
def Bd (n:Nat) (v:AV):Prop:=∃ (φ:Phi) (c:Value),(∀ b p,φ b=some p->b < n)∧RelT φ v c
def cut (φ:Phi) (n:Nat):Phi:=fun b=>if b < n then φ b else none
theorem cut_some {n b:Nat} {p:Pl} (h:cut φ n b=some p):b < n∧φ b=some p:=by
 unfold cut at h;split at h
 ·exact ⟨by assumption,h⟩
 ·cases h
theorem cut_of {n b:Nat} {p:Pl} (hb:b < n) (h:φ b=some p):cut φ n b=some p:=by unfold cut;rw [if_pos hb];exact h
theorem bd_B {ψ:Phi} {n:Nat} (hd:∀ b p,ψ b=some p->b < n) {x:AV} {v c:Value} (h:RelB φ x v) (hb:RelB ψ x c):RelB (cut φ n) x v:=by
 cases h with
 | bool _=>exact .bool _
 | int _ _=>exact .int _ _
 | str _=>exact .str _
 | nilp=>exact .nilp
 | ptr e=>cases hb with | ptr e'=>exact .ptr (cut_of (hd _ _ e') e)
 | nils=>exact .nils
 | sl e h1 h2 h3 h4 h5=>cases hb with | sl e' _ _ _ _ _=>exact .sl (cut_of (hd _ _ e') e) h1 h2 h3 h4 h5
 | nilm=>exact .nilm
 | map e=>cases hb with | map e'=>exact .map (cut_of (hd _ _ e') e)
 | nilf=>exact .nilf
 | it e=>cases hb with | it e'=>exact .it (cut_of (hd _ _ e') e)
 | yl e=>cases hb with | yl e'=>exact .yl (cut_of (hd _ _ e') e)
theorem bd_L {R S T:AV->Value->Prop} (hh:∀ x v c,R x v->S x c->T x v):∀ {l:List AV} {m k:List Value},L2 R l m->L2 S l k->L2 T l m
 | _,_,_,.nil,_=>.nil
 | _,_,_,.cons a b,.cons c d=>.cons (hh _ _ _ a c) (bd_L hh b d)
theorem bd_S {ψ:Phi} {n:Nat} (hd:∀ b p,ψ b=some p->b < n) {x:AV} {v c:Value} (h:RelS φ x v) (hb:RelS ψ x c):RelS (cut φ n) x v:=by
 cases h with
 | base h=>cases hb with
  | base hb=>exact .base (bd_B hd h hb)
  | fn _ _=>cases h
 | fn a b=>cases hb with
  | base hb=>cases hb
  | fn a' b'=>exact .fn (bd_L (T:=RelB (cut φ n)) (fun _ _ _ p q=>bd_B hd p q) a a') (bd_L (T:=RelB (cut φ n)) (fun _ _ _ p q=>bd_B hd p q) b b')
theorem bd_F {ψ:Phi} {n:Nat} (hd:∀ b p,ψ b=some p->b < n) {x:AV} {v c:Value} (h:RelF φ x v) (hb:RelF ψ x c):RelF (cut φ n) x v:=by
 cases h with
 | cell h=>cases hb with
  | cell hb=>exact .cell (bd_S hd h hb)
  | agg _=>exact absurd h (by rintro ⟨⟩;rename_i q;cases q)
 | agg a=>cases hb with
  | cell hb=>exact absurd hb (by rintro ⟨⟩;rename_i q;cases q)
  | agg a'=>exact .agg (bd_L (T:=RelS (cut φ n)) (fun _ _ _ p q=>bd_S hd p q) a a')
theorem bd_X {ψ:Phi} {n:Nat} (hd:∀ b p,ψ b=some p->b < n) {x:AV} {v c:Value} (h:RelX φ x v) (hb:RelX ψ x c):RelX (cut φ n) x v:=by
 cases h with
 | bad=>exact .bad
 | junk v=>exact .junk v
 | val h=>cases hb with
  | val hb=>exact .val (bd_F hd h hb)
  | bad=>exact absurd h (by rintro ⟨⟩;rename_i q;cases q;rename_i q;cases q)
  | junk _=>exact .junk v
theorem bd_T {n:Nat} {x:AV} {v:Value} (h:RelT φ x v) (hb:Bd n x):RelT (cut φ n) x v:=by
 obtain ⟨ψ,c,hd,hb⟩:=hb;cases h with
 | one h=>cases hb with
  | one hb=>exact .one (bd_X hd h hb)
  | tup _=>exact absurd h (by rintro ⟨⟩;rename_i q;cases q;rename_i q;cases q;rename_i q;cases q)
 | tup a=>cases hb with
  | one hb=>exact absurd hb (by rintro ⟨⟩;rename_i q;cases q;rename_i q;cases q;rename_i q;cases q)
  | tup a'=>exact .tup (bd_L (T:=RelX (cut φ n)) (fun _ _ _ p q=>bd_X hd p q) a a')
structure StepTr (P : Program) (N : Nat) (ops : Array Oper) (call : CallF) (o : Oper) (s s' : Tr) : Prop where
  dst : okDst N o.dst = true
  tell : leaves (stepC P ops o) call s.tm s.h = .one s.v s'.h
  tm : s'.tm = (putC o.dst).run s.tm s.v
theorem lone_all {x:V2} {f:AV->H->O3} {K:Ex->Tm->H->Prop} (h:(x.one1 .no f).all K):∃ v h',x=.one v h'∧(f v h').all K:=by
 cases x with
 | no=>exact False.elim h
 | one v h'=>exact ⟨v,h',rfl,h⟩
 | alt _ _=>exact False.elim h
theorem consT_all {c:OpC} {p:PutC} {r:TC} {call:CallF} {tm:Tm} {tr:List Tr} {K:Ex->Tm->H->Prop} (hk:((consT c p r).run call tm h tr).all K):
  ∃ v h',leaves c call tm h=.one v h'∧(r.run call (p.run tm v) h' (⟨tm,h,v⟩ :: tr)).all K:=by
 cases c with
 | mv f=>exact ⟨_,_,rfl,hk⟩
 | pr f=>obtain ⟨v,hv,hk⟩:=ob_allO hk;exact ⟨v,h,by show ob V2.no (f tm) _=_;rw [hv];rfl,hk⟩
 | rd f=>obtain ⟨v,hv,hk⟩:=ob_allO hk;exact ⟨v,h,by show ob V2.no (f tm h) _=_;rw [hv];rfl,hk⟩
 | ge f=>obtain ⟨v,h',hv,hk⟩:=lone_all hk;exact ⟨v,h',hv,hk⟩
theorem trace_ok {N:Nat} {ops:Array Oper} {call:CallF} {k:List Tr->Tm->H->O3} {K:Ex->Tm->H->Prop}:∀ (l:List Oper) (tr:List Tr) (tm:Tm) (h:H),((traceC P N ops k l).run call tm h tr).all K ->
  ∃ (L:List Tr) (tm':Tm) (h':H),L.length=l.length∧(k (L.reverse++tr) tm' h').all K∧(∃ s,(L++[⟨tm',h',.bad⟩])[0]? = some s∧s.tm=tm∧s.h=h) ∧
   ∀ j o,l[j]? = some o->∃ s s',(L++[⟨tm',h',.bad⟩])[j]? = some s∧(L++[⟨tm',h',.bad⟩])[j+1]? = some s'∧StepTr P N ops call o s s'
 | [],tr,tm,h,hk=>⟨[],tm,h,rfl,hk,⟨_,rfl,rfl,rfl⟩,fun j o hj=>by simp at hj⟩
 | o :: l,tr,tm,h,hk=>by
  have hk:((iteB (okDst N o.dst) (consT (stepC P ops o) (putC o.dst) (traceC P N ops k l)) (⟨fun _ _ _ _=>.no⟩:TC)).run call tm h tr).all K:=hk;cases hd:okDst N o.dst with
  | false=>rw [hd] at hk;exact False.elim hk
  | true=>
   rw [hd] at hk;obtain ⟨v,h1,hv,hk⟩:=consT_all hk;obtain ⟨L,tm',h',g1,g2,⟨s,g3,g4,g5⟩,g6⟩:=trace_ok l _ _ _ hk;refine ⟨⟨tm,h,v⟩ :: L,tm',h',by simp [g1],by simpa using g2,⟨_,rfl,rfl,rfl⟩,fun j o' hj=>?_⟩;cases j with
   | zero=>
    simp at hj;subst hj;exact ⟨⟨tm,h,v⟩,s,rfl,by simpa using g3,⟨hd,by rw [g5];exact hv,g4⟩⟩
   | succ j=>
    obtain ⟨s1,s2,e1,e2,e3⟩:=g6 j o' (by simpa using hj);exact ⟨s1,s2,by simpa using e1,by simpa using e2,e3⟩
theorem bound_ok {N:Nat} {ops:Array Oper} {call:CallF} (hc:CallOk P call) (S:Nat->Tr):∀ (j:Nat) (m:Nat),(∀ i,i < m->∃ o,ops[i]? = some o∧StepTr P N ops call o (S i) (S (i+1)))->j<=m ->
  ∀ (φ:Phi) (a:Act) (w:World),TmRel φ (S 0).tm a.tmps->N<=a.tmps.size->Rel φ (S 0).h w->∃ (ψ:Phi) (a':Act) (w':World),TmRel ψ (S j).tm a'.tmps∧N<=a'.tmps.size∧Rel ψ (S j).h w'
 | 0,m,_,_,φ,a,w,ht,hN,hr=>⟨φ,a,w,ht,hN,hr⟩
 | j+1,m,hs,hj,φ,a,w,ht,hN,hr=>by
  obtain ⟨ψ,a1,w1,t1,n1,r1⟩:=bound_ok hc S j m hs (by omega) φ a w ht hN hr;obtain ⟨o,ho,st⟩:=hs j (by omega)
  have:=step_ok (r:=none) (n:=0) (ops:=ops) (o:=o) (K:=fun v h'=>v=(S j).v∧h'=(S (j+1)).h) (next:=fun a' w'=>∃ ψ,TmRel ψ (S (j+1)).tm a'.tmps∧N<=a'.tmps.size∧Rel ψ (S (j+1)).h w')
   (Q:=fun _ _ _=>False) hc t1 r1 (by rw [st.tell];exact ⟨rfl,rfl⟩) (by
    rintro v h' χ w' cv ⟨rfl,rfl⟩ hv hr' hs';obtain ⟨q1,q2,_⟩:=put_rel st.dst n1 (t1.ext hs'.ext) hv;exact ⟨χ,by rw [st.tm];exact q1,q2,hr'⟩)
  split at this
  ·obtain ⟨a',w',χ,q1,q2,q3⟩:=wpIn_exists this
   exact ⟨χ,a',w',q1,q2,q3⟩
  ·obtain ⟨_,χ,q1,q2,q3⟩:=this
   exact ⟨χ,_,_,q1,q2,q3⟩
theorem bd_at {ψ:Phi} {tm:Tm} {a:Act} (ht:TmRel ψ tm a.tmps) (r:Rel ψ h w) (t:Nat):Bd h.n ((acc AV.bad t).run tm):=⟨ψ,_,r.dom,ht t⟩
end
end Go.Proofs.YtcilaocknhphnaaGreat.Ev
