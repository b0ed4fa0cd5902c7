/-
  
-/
import Derived.Laws.CopyRow
import Derived.Test.YtcilaocknhphnaaGreatZgEv6
namespace Go.Proofs.YtcilaocknhphnaaGreat.Ev
section
variable {P : Program} {φ : Phi}
theorem checkFields_ok {m D:Nat} {em:Bool} (IH:∀ t ks,flat P m t=some ks->∀ w A x,FV P φ t A x->fits ks A=true->(Instr.checkKey em D t x).run P w=.ok () w) {A:List AV} {X:Array Value} (hX:L2 (RelS φ) A X.toList) (w:World):
  ∀ (fs:List Field) (off:Nat) (ks:List Nat),flatF P (flat P m) fs off=some ks->fits ks (A.drop off)=true ->
   (forIn fs PUnit.unit fun f _=>if f.name≠"_" then do Instr.checkKey em D f.type (<- Go.part f.type X f.offset);pure (ForInStep.yield PUnit.unit) else pure (ForInStep.yield PUnit.unit):Sem PUnit).run P w=.ok () w
 | [],off,ks,h,hA=>by simp
 | f :: fs,off,ks,h,hA=>by
  obtain ⟨k1,k2,h1,h2,rfl,h4,h5,rfl⟩:=flatF_len h f fs rfl;obtain ⟨a1,a2⟩:=fits_append hA;obtain ⟨x,p1,v1⟩:=run_piece h1 h2 hX a1 w;have q:=IH f.type k1 h1 w _ x v1 a1;rw [List.drop_drop] at a2;have rest:=checkFields_ok IH hX w fs _ k2 h5 a2;simp only [List.forIn_cons,Sem.run_bind,ne_eq,h4,not_false_eq_true,if_true,p1,q,Result.andThen_ok,Sem.run_pure];exact rest
theorem checkItems_ok {m D:Nat} {em:Bool} {e:TypeId} {i0:TypeInfo} (hi:P.info? e=some i0) {l:List Nat} (hl:flat P m e=some l) (hle:l.length=P.cellsOf e)
  (IH:∀ w A x,FV P φ e A x->fits l A=true->(Instr.checkKey em D e x).run P w=.ok () w) {A:List AV} {X:Array Value} (hX:L2 (RelS φ) A X.toList) (w:World):
  ∀ (n i:Nat),fits (rep n l) (A.drop (i*l.length))=true ->
   (forIn (List.range' i n) PUnit.unit fun i _=>do Instr.checkKey em D e (<- Go.part e X (i*(<- sizeOf e)));pure (ForInStep.yield PUnit.unit):Sem PUnit).run P w=.ok () w
 | 0,i,hA=>by simp
 | n+1,i,hA=>by
  have er:rep (n+1) l=l++rep n l:=appL_eq _ _;rw [er] at hA;obtain ⟨a1,a2⟩:=fits_append hA;obtain ⟨x,p1,v1⟩:=run_piece hl hle hX a1 w;have q:=IH w _ x v1 a1;have ei:i*l.length+l.length=(i+1)*l.length:=by rw [Nat.add_mul];omega
  rw [List.drop_drop,ei] at a2;have rest:=checkItems_ok hi hl hle IH hX w n (i+1) a2;rw [hle] at p1;rw [List.range'_succ];simp only [List.forIn_cons,Sem.run_bind,run_sizeOf hi,p1,q,Result.andThen_ok,Sem.run_pure];exact rest
theorem flat_check (em:Bool):∀ (m:Nat) (t:TypeId) (ks:List Nat),flat P m t=some ks->∀ (D:Nat) (w:World) (A:List AV) (x:Value),FV P φ t A x->fits ks A=true->(Instr.checkKey em (D+m) t x).run P w=.ok () w
 | 0,t,ks,h,_,_,_,_,_,_=>by cases h
 | m+1,t,ks,h,D,w,A,x,hx,fA=>by
  obtain ⟨d,hu,hd⟩:=flat_und h;rw [show D+(m+1)=(D+m)+1 by omega];rcases hd with ⟨rfl,rfl⟩ | ⟨k,rfl,rfl⟩ | ⟨rfl,rfl⟩ | ⟨fs,rfl,hst,m',hm,hfs⟩ | ⟨n,e,l,rfl,m',hm,hl,hle,rfl⟩
  ·simp [Instr.checkKey,run_underlying hu]
  ·simp [Instr.checkKey,run_underlying hu]
  ·simp [Instr.checkKey,run_underlying hu]
  ·cases hm
   obtain ⟨X,rfl⟩:=hx.agg (by rw [hu];rfl);have:=checkFields_ok (φ:=φ) (em:=em) (X:=X) (fun t ks h w A x=>flat_check em m t ks h D w A x) hx.cells w fs.toList 0 ks hfs fA;rw [Instr.checkKey];simp only [Sem.run_bind,run_underlying hu,Result.andThen_ok];rw [<- Array.forIn_toList];simp at this ⊢;rw [this];rfl
  ·cases hm
   obtain ⟨X,rfl⟩:=hx.agg (by rw [hu];rfl);obtain ⟨i,hi⟩:∃ i,P.info? e=some i:=by obtain ⟨d,hd,_⟩:=flat_und hl;exact info_of_und hd
   have:=checkItems_ok (φ:=φ) (em:=em) (X:=X) hi hl hle (fun w A x=>flat_check em m e l hl D w A x) hx.cells w n 0 (by simpa using fA);rw [Instr.checkKey];simp only [Sem.run_bind,run_underlying hu,Result.andThen_ok];simp only [Std.Legacy.Range.forIn_eq_forIn_range',Std.Legacy.Range.size,Nat.sub_zero,Nat.add_one_sub_one,Nat.div_one];simp at this ⊢;rw [this];rfl
theorem eqC_kind {a b:AV} {r:Bool} (h:eqC a b=some r):cellKind a=cellKind b:=by
 cases a <;> first | (cases h;done) | skip
 all_goals (cases b <;> first | (cases h;done) | rfl | skip)
 obtain ⟨h1,_⟩:=iteB_some h;show kn _=kn _;exact Nat.eq_of_beq_eq_true h1
theorem eqL_fits:∀ {A B:List AV} {ks:List Nat} {r:Bool},eqL A B=some r->fits ks A=true->fits ks B=true
 | [],[],[],_,_,_=>rfl
 | [],_ :: _,_,_,h,_=>by cases h
 | _ :: _,[],_,_,h,_=>by cases h
 | [],[],_ :: _,_,_,h=>by cases h
 | _ :: _,_ :: _,[],_,_,h=>by cases h
 | a :: A,b :: B,k :: ks,r,h,hf=>by
  obtain ⟨r1,r2,h1,h2,_⟩:=eqL_cons h;obtain ⟨f1,f2⟩:=fits_cons hf;show iteB (Nat.beq (cellKind b) k) (fits ks B) false=true;rw [<- eqC_kind h1,f1,Nat.beq_refl];exact eqL_fits h2 f2
theorem keyCells_rel {x:AV} {v:Value} (h:RelF φ x v):L2 (RelS φ) (keyCells x) v.cells.toList:=by
 cases h with
 | agg a=>exact a
 | cell h=>
  have:keyCells x=[x]:=by
   cases h with
   | base h=>cases h <;> rfl
   | fn _ _=>rfl
  rw [this,cells_one h];exact .cons h .nil
theorem FV.of {m:Nat} {t:TypeId} {ks:List Nat} (h:flat P m t=some ks) {x:AV} {v:Value} (hr:RelF φ x v) (hs:isAggD ((P.underlying t).getD .invalid)=true->∃ l,x=.agg l) (hn:isAggD ((P.underlying t).getD .invalid)=false->∀ l,x≠.agg l):
  FV P φ t (keyCells x) v:=by
 refine ⟨keyCells_rel hr,fun q=>?_,fun q=>?_⟩
 ·obtain ⟨l,rfl⟩:=hs q
  cases hr with
  | agg a=>exact ⟨_,rfl⟩
  | cell h=>cases h with | base h=>cases h
 ·have:=hn q
  cases hr with
  | agg a=>exact absurd rfl (this _)
  | cell h=>
   refine ⟨x,?_,h⟩;cases h with
   | base h=>cases h <;> rfl
   | fn _ _=>rfl
theorem keyOk_some {t:TypeId} {k:AV} (h:keyOk P t k=true):eqT (ti P t).desc k=true∧∃ ks,flat P 8 t=some ks∧fits ks (keyCells k)=true:=by
 obtain ⟨h1,h2⟩:=andB_iff.1 h;refine ⟨h1,?_⟩;have h2:ob false (flat P 8 t) (fun ks=>fits ks (keyCells k))=true:=h2;cases hf:flat P 8 t with
 | none=>rw [hf] at h2;cases h2
 | some ks=>rw [hf] at h2;exact ⟨ks,rfl,h2⟩
theorem eqT_aggD {d:TypeDesc} {k:AV} (h:eqT d k=true):isAggD d=true↔∃ l,k=.agg l:=by
 constructor
 ·intro q
  cases d <;> first | (cases q;done) | skip
  ·cases k <;> first | (cases h;done) | exact ⟨_,rfl⟩
  ·cases k <;> first | (cases h;done) | exact ⟨_,rfl⟩
 ·rintro ⟨l,rfl⟩
  cases d <;> first | (cases h;done) | rfl
def FindAt (k:AV) (es:List (AV × AV)):Option Nat->Prop
 | none=>∀ e∈es,eqK k e.1=some false
 | some i=>(∃ e,es[i]? = some e∧eqK k e.1=some true)∧∀ j e,j < i->es[j]? = some e->eqK k e.1=some false
theorem FindAt.cons_no {k:AV} {e:AV × AV} {es:List (AV × AV)} (h:eqK k e.1=some false) {o:Option Nat} (f:FindAt k es o):FindAt k (e :: es) (o.map (· + 1)):=by
 cases o with
 | none=>
  intro x hx;rcases List.mem_cons.1 hx with rfl | hx
  ·exact h
  ·exact f x hx
 | some i=>
  obtain ⟨⟨x,h1,h2⟩,h3⟩:=f;refine ⟨⟨x,by simpa using h1,h2⟩,fun j y hj hy=>?_⟩;cases j with
  | zero=>simp at hy;subst hy;exact h
  | succ j=>exact h3 j y (Nat.lt_of_succ_lt_succ hj) (by simpa using hy)
theorem FindAt.cons_yes {k:AV} {e:AV × AV} {es:List (AV × AV)} (h:eqK k e.1=some true):FindAt k (e :: es) (some 0):=
 ⟨⟨e,rfl,h⟩,fun j y hj=>by omega⟩
theorem look_find {k:AV}:∀ {es:List (AV × AV)} {r:Option AV},lookM k es=some r->∃ o,FindAt k es o∧(o=none->r=none)∧∀ i e,o=some i->es[i]? = some e->r=some e.2
 | [],r,h=>by cases h;exact ⟨none,fun _ h=>(by simp at h),fun _=>rfl,fun _ _ h=>(by cases h)⟩
 | e :: es,r,h=>by
  obtain ⟨b,h1,h⟩:=ob_none_eq (show ob none (eqK k e.1) _=some r from h);cases b with
  | true=>cases h;exact ⟨some 0,.cons_yes h1,fun h=>(by cases h),fun i x hi hx=>(by cases hi;simp at hx;subst hx;rfl)⟩
  | false=>
   obtain ⟨o,h2,h3,h4⟩:=look_find h;refine ⟨o.map (· + 1),.cons_no h1 h2,fun q=>h3 (by simpa using q),fun i x hi hx=>?_⟩;cases o with
   | none=>cases hi
   | some j=>cases hi;exact h4 j x rfl (by simpa using hx)
theorem upd_find {k v:AV}:∀ {es r:List (AV × AV)},updM k v es=some r->∃ o,FindAt k es o∧(o=none->r=es++[(k,v)])∧∀ i,o=some i->r=es.set i (k,v)
 | [],r,h=>by cases h;exact ⟨none,fun _ h=>(by simp at h),fun _=>rfl,fun _ h=>(by cases h)⟩
 | e :: es,r,h=>by
  obtain ⟨b,h1,h⟩:=ob_none_eq (show ob none (eqK k e.1) _=some r from h);cases b with
  | true=>cases h;exact ⟨some 0,.cons_yes h1,fun h=>(by cases h),fun i hi=>(by cases hi;rfl)⟩
  | false=>
   obtain ⟨l,h5,h⟩:=ob_none_eq (show ob none (updM k v es) _=some r from h);cases h;obtain ⟨o,h2,h3,h4⟩:=upd_find h5;refine ⟨o.map (· + 1),.cons_no h1 h2,fun q=>by rw [h3 (by simpa using q)];rfl,fun i hi=>?_⟩;cases o with
   | none=>cases hi
   | some j=>cases hi;rw [h4 j rfl];rfl
theorem del_find {k:AV}:∀ {es r:List (AV × AV)},delM k es=some r->∃ o,FindAt k es o∧(o=none->r=es)∧∀ i,o=some i->r=es.eraseIdx i
 | [],r,h=>by cases h;exact ⟨none,fun _ h=>(by simp at h),fun _=>rfl,fun _ h=>(by cases h)⟩
 | e :: es,r,h=>by
  obtain ⟨b,h1,h⟩:=ob_none_eq (show ob none (eqK k e.1) _=some r from h);cases b with
  | true=>cases h;exact ⟨some 0,.cons_yes h1,fun h=>(by cases h),fun i hi=>(by cases hi;rfl)⟩
  | false=>
   obtain ⟨l,h5,h⟩:=ob_none_eq (show ob none (delM k es) _=some r from h);cases h;obtain ⟨o,h2,h3,h4⟩:=del_find h5;refine ⟨o.map (· + 1),.cons_no h1 h2,fun q=>by rw [h3 (by simpa using q)],fun i hi=>?_⟩;cases o with
   | none=>cases hi
   | some j=>cases hi;rw [h4 j rfl];rfl
theorem eqL_one {x y:AV} {b:Bool} (h:eqC x y=some b):eqL [x] [y]=some b:=by
 show ob none (eqC x y) (fun r=>ob none (eqL [] []) fun s=>some (andB r s))=some b;rw [h];cases b <;> rfl
theorem key_equal {t:TypeId} {k e:AV} {kv ev:Value} {b:Bool} (hk:keyOk P t k=true) (hr:RelF φ k kv) (he:RelF φ e ev) (h:eqK k e=some b) (w:World):
  (Op.equalIn 10000 t kv ev).run P w=.ok b w:=by
 obtain ⟨h1,ks,hf,hfit⟩:=keyOk_some hk;have hag:=eqT_aggD h1;rw [show (ti P t).desc=(P.underlying t).getD .invalid from ti_desc P t] at hag
 have hL:eqL (keyCells k) (keyCells e)=some b:=by
  cases k <;> first | (cases h;done) | skip
  case agg l=>cases e <;> first | (cases h;done) | exact h
  all_goals
   cases e <;> first | (cases h;done) | skip
   exact eqL_one h
 have hle:(∃ l,k=.agg l)↔∃ l,e=.agg l:=by
  constructor
  ·rintro ⟨l,rfl⟩
   cases e <;> first | (cases h;done) | exact ⟨_,rfl⟩
  ·rintro ⟨l,rfl⟩
   cases k <;> first | (cases h;done) | exact ⟨_,rfl⟩
 have nota:∀ {x:AV} {d:TypeDesc},(isAggD d=true↔∃ l,x=.agg l)->isAggD d=false->∀ l,x≠.agg l:=by
  intro x d q q2 l e;rw [q.2 ⟨l,e⟩] at q2;cases q2
 exact flat_eq (φ:=φ) 8 t ks hf 9992 w _ _ kv ev b (FV.of hf hr hag.1 (nota hag)) (FV.of hf he (fun q=>hle.1 (hag.1 q)) (nota (hag.trans hle))) hfit (eqL_fits hL hfit) hL
theorem findAsking_ok {t:TypeId} {kv:Value} (w:World):∀ {ces:List MapEntry} {o:Option Nat} (i:Nat),
  (∀ b:Nat,o=some b->(∃ c,ces[b]? = some c∧(Op.equalIn 10000 t kv c.key).run P w=.ok true w)∧∀ j c,j < b->ces[j]? = some c->(Op.equalIn 10000 t kv c.key).run P w=.ok false w) ->
  (o=none->∀ c∈ces,(Op.equalIn 10000 t kv c.key).run P w=.ok false w) ->
  (Instr.findAsking t kv ces i).run P w=.ok (o.bind fun b=>(ces[b]?).map fun c=>(i+b,c.val)) w
 | [],o,i,h1,h2=>by
  cases o with
  | none=>rfl
  | some b=>obtain ⟨⟨c,hc,_⟩,_⟩:=h1 b rfl;simp at hc
 | c :: ces,o,i,h1,h2=>by
  have e0:(Op.equal t kv c.key).run P w=(Op.equalIn 10000 t kv c.key).run P w:=rfl;cases o with
  | none=>
   have q:=h2 rfl c (by simp);have ih:=findAsking_ok (ces:=ces) (o:=none) w (i+1) (fun b h=>by cases h) (fun _ d hd=>h2 rfl d (by simp [hd]));simp only [Instr.findAsking,Sem.run_bind,e0,q,Result.andThen_ok,Bool.false_eq_true,if_false];rw [ih];rfl
  | some b=>
   obtain ⟨⟨d,hd,hq⟩,hlt⟩:=h1 b rfl;cases b with
   | zero=>
    simp at hd;subst hd;simp [Instr.findAsking,e0,hq]
   | succ b=>
    have q:=hlt 0 c (by omega) rfl
    have ih:=findAsking_ok (ces:=ces) (o:=some b) w (i+1) (fun b' h=>by
     cases h;exact ⟨⟨d,by simpa using hd,hq⟩,fun j e hj he=>hlt (j+1) e (by omega) (by simpa using he)⟩) (fun h=>by cases h)
    simp only [Instr.findAsking,Sem.run_bind,e0,q,Result.andThen_ok,Bool.false_eq_true,if_false];rw [ih];simp only [Option.bind_some,List.getElem?_cons_succ];rw [show i+1+b=i+(b+1) by omega]
theorem findNow_ok {d:TypeDesc} {t:TypeId} (hu:P.underlying t=some d) {kv:Value} (w:World):∀ {ces:List MapEntry} {o:Option Nat} (i:Nat) {r:Option (Nat × Value)},
  (∀ c∈ces,∀ b,Instr.sameNow d kv c.key=some b->(Op.equalIn 10000 t kv c.key).run P w=.ok b w) ->
  Instr.findNow d kv ces i=some r->(Instr.findAsking t kv ces i).run P w=.ok r w
 | [],o,i,r,_,h=>by cases h;rfl
 | c :: ces,o,i,r,hs,h=>by
  have e0:(Op.equal t kv c.key).run P w=(Op.equalIn 10000 t kv c.key).run P w:=rfl;simp only [Instr.findNow] at h;cases hb:Instr.sameNow d kv c.key with
  | none=>rw [hb] at h;cases h
  | some b=>
   have q:=hs c (by simp) b hb;rw [hb] at h;cases b with
   | true=>cases h;simp [Instr.findAsking,e0,q]
   | false=>
    have ih:=findNow_ok hu (o:=o) w (i+1) (fun d hd=>hs d (by simp [hd])) h;simp only [Instr.findAsking,Sem.run_bind,e0,q,Result.andThen_ok,Bool.false_eq_true,if_false];exact ih
theorem sameNow_ok {t:TypeId} {d:TypeDesc} (hu:P.underlying t=some d) {u v:Value} {b:Bool} (h:Instr.sameNow d u v=some b) (w:World):(Op.equalIn 10000 t u v).run P w=.ok b w:=by
 unfold Instr.sameNow at h;split at h
 ·split at h
  ·rename_i hk;cases hk;cases h;exact run_equalIn_int w 9999 t _ _ _ _ hu
  ·cases h
 ·cases h;rw [run_equalIn_string w 9999 t _ _ hu,beq_toListBytes]
 ·cases h;exact run_equalIn_bool w 9999 t _ _ hu
 ·cases h
theorem FindAt.runs {t:TypeId} {k:AV} {kv:Value} (hk:keyOk P t k=true) (hr:RelF φ k kv) {es:List (AV × AV)} {ces:List MapEntry} (he:L2 (EntRel φ) es ces) {o:Option Nat} (f:FindAt k es o) (w:World):
  (Instr.findAsking t kv ces 0).run P w=.ok (o.bind fun b=>(ces[b]?).map fun c=>(b,c.val)) w:=by
 have eq:∀ {j:Nat} {c:MapEntry} {b:Bool},ces[j]? = some c->(∀ e,es[j]? = some e->eqK k e.1=some b)->(Op.equalIn 10000 t kv c.key).run P w=.ok b w:=by
  intro j c b hc hb;cases hes:es[j]? with
  | none=>
   have:j < ces.length:=(List.getElem?_eq_some_iff.1 hc).1;rw [List.getElem?_eq_none_iff] at hes;have:=he.length;omega
  | some e=>
   obtain ⟨c',hc',hr'⟩:=he.get hes;rw [hc] at hc';cases hc';exact key_equal hk hr hr'.key (hb e hes) w
 have:=findAsking_ok (P:=P) (t:=t) (kv:=kv) w (ces:=ces) (o:=o) 0 (fun b hb=>by
  subst hb;obtain ⟨⟨e,h1,h2⟩,h3⟩:=f;obtain ⟨c,hc,_⟩:=he.get h1;exact ⟨⟨c,hc,eq hc fun x hx=>by rw [h1] at hx;cases hx;exact h2⟩,fun j d hj hd=>eq hd fun x hx=>h3 j x hj hx⟩) (fun ho c hc=>by
  subst ho;obtain ⟨j,hj⟩:=List.getElem?_of_mem hc;exact eq hj fun x hx=>f x (List.mem_of_getElem? hx))
 simpa using this
theorem findKey_ok {t:TypeId} {k:AV} {kv:Value} (hk:keyOk P t k=true) (hr:RelF φ k kv) {es:List (AV × AV)} {ces:List MapEntry} (he:L2 (EntRel φ) es ces) {o:Option Nat} (f:FindAt k es o) (w:World):
  (Instr.findKey t kv ces).run P w=.ok (o.bind fun b=>(ces[b]?).map fun c=>(b,c.val)) w:=by
 have hA:=f.runs hk hr he w;obtain ⟨h1,_⟩:=keyOk_some hk
 have hu:P.underlying t=some (ti P t).desc:=und_of rfl (by
  intro e;rw [e] at h1;cases h1)
 simp only [Instr.findKey,Sem.run_bind,run_underlying hu,Result.andThen_ok];cases hn:Instr.findNow (ti P t).desc kv ces 0 with
 | none=>exact hA
 | some r=>
  have:=findNow_ok hu (o:=o) w 0 (fun c _ b hb=>sameNow_ok hu hb w) hn;rw [this] at hA;simp only [Result.ok.injEq,and_true] at hA;simp [hA]
theorem checkKey_ok {t:TypeId} {k:AV} {kv:Value} (hk:keyOk P t k=true) (hr:RelF φ k kv) (em:Bool) (w:World):(Instr.checkKey em 10000 t kv).run P w=.ok () w:=by
 obtain ⟨h1,ks,hf,hfit⟩:=keyOk_some hk;have hag:=eqT_aggD h1;rw [show (ti P t).desc=(P.underlying t).getD .invalid from ti_desc P t] at hag;exact flat_check (φ:=φ) em 8 t ks hf 9992 w _ kv (FV.of hf hr hag.1 (fun q l e=>by rw [hag.2 ⟨l,e⟩] at q;cases q)) hfit
theorem relF_of {x:AV} {v:Value} (h:RelT φ x v) (h1:x≠.junk) (h2:x≠.bad) (h3:∀ l,x≠.tup l):RelF φ x v:=by
 cases h with
 | tup _=>exact absurd rfl (h3 _)
 | one h=>cases h with
  | val h=>exact h
  | bad=>exact absurd rfl h2
  | junk _=>exact absurd rfl h1
theorem key_relF {t:TypeId} {k:AV} {kv:Value} (hk:keyOk P t k=true) (hr:RelT φ k kv):RelF φ k kv:=by
 obtain ⟨h1,h2,h3,_⟩:=eqT_not (keyOk_some hk).1;exact relF_of hr h1 h2 h3
theorem mapT_some {t:TypeId} (h:(mapT P t).ok=true):(ti P t).desc=.map (mapT P t).k (mapT P t).e:=by
 have h:(mapD (ti P t).desc).ok=true:=h;show _=TypeDesc.map (mapD (ti P t).desc).k (mapD (ti P t).desc).e;revert h;cases (ti P t).desc <;> intro h <;> first | (cases h;done) | rfl
theorem run_lookup {t kt et:TypeId} (hu:P.underlying t=some (.map kt et)) {x kv:Value} {ces:Array MapEntry} {ok b:Bool} {res:Option (Nat × Value)} {c:Value} (w:World)
  (hx:(x=.map none∧ces=#[])∨∃ r clk,x=.map (some r)∧w.heap[r]? = some (.map ces clk)) (hchk:(Instr.checkKey ces.isEmpty 10000 kt kv).run P w=.ok () w)
  (hfind:(Instr.findKey kt kv ces.toList).run P w=.ok res w) (hres:(∃ i,res=some (i,c)∧b=true)∨(res=none∧b=false∧(zeroValue et).run P w=.ok c w)):
  (Instr.lookup t x kv ok).run P w=.ok (if ok=true then .tuple #[c,.bool b] else c) w:=by
 rcases hx with ⟨rfl,rfl⟩ | ⟨r,clk,rfl,hobj⟩
 ·simp at hchk hfind
  rcases hres with ⟨i,rfl,rfl⟩ | ⟨rfl,rfl,hz⟩
  ·simp [Instr.lookup,run_underlying hu,hchk,hfind]
  ·simp [Instr.lookup,run_underlying hu,hchk,hfind,hz]
 ·have hg:(getObj r).run P w=.ok (.map ces clk) w:=by simp [getObj,Sem.run,hobj]
  rcases hres with ⟨i,rfl,rfl⟩ | ⟨rfl,rfl,hz⟩
  ·simp [Instr.lookup,run_underlying hu,hg,hchk,hfind]
  ·simp [Instr.lookup,run_underlying hu,hg,hchk,hfind,hz]
theorem ok_lookup {o:Oper} {t:TypeId} {x k:Operand} {ok:Bool} (ho:o.op=.lookup t x k ok):RdOk P o (oLookup P t (opd x) (opd k) ok):=fun φ tm ρ h w v he hr hv=>by
 have hx:=he x (by rw [ho];simp [Op.operands]);have hkk:=he k (by rw [ho];simp [Op.operands]);obtain ⟨hc,hv⟩:=iteB_some hv;obtain ⟨h1,h2⟩:=andB_iff.1 hc;have hu:=und_of (mapT_some h1) (by simp);have hkf:=key_relF h2 hkk;obtain ⟨r,hl,hv⟩:=ob_none_eq hv
 have main:∃ (ces:Array MapEntry) (res:Option (Nat × Value)),((ρ x=.map none∧ces=#[])∨∃ r clk,ρ x=.map (some r)∧w.heap[r]? = some (.map ces clk)) ∧
   (Instr.findKey (mapT P t).k (ρ k) ces.toList).run P w=.ok res w∧(r=none->res=none)∧(∀ u,r=some u->∃ i c,res=some (i,c)∧RelF φ u c):=by
  generalize hX:(opd x).run tm=X at hx hl;cases X <;> first | (cases hl;done) | skip
  ·cases hl
   refine ⟨#[],none,.inl ⟨relT_nilm hx,rfl⟩,?_,fun _=>rfl,fun u h=>by cases h⟩;exact findKey_ok h2 hkf (es:=[]) (ces:=[]) .nil (o:=none) (fun _ h=>by simp at h) w
  ·obtain ⟨es,hes,hl⟩:=ob_none_eq hl
   obtain ⟨p,hp,ex⟩:=relT_map hx;obtain ⟨ces,clk,hobj,hrel,_,_⟩:=map_some hr hp hes;obtain ⟨i,hfi,hn,hs⟩:=look_find hl;refine ⟨ces,_,.inr ⟨p.b,clk,ex,hobj⟩,findKey_ok h2 hkf hrel hfi w,fun q=>?_,fun u hu=>?_⟩
   ·cases i with
    | none=>rfl
    | some i=>
     obtain ⟨⟨e,he1,_⟩,_⟩:=hfi;rw [hs i e rfl he1] at q;cases q
   ·cases i with
    | none=>rw [hn rfl] at hu;cases hu
    | some i=>
     obtain ⟨⟨e,he1,_⟩,_⟩:=hfi;rw [hs i e rfl he1] at hu;cases hu;obtain ⟨c,hc,hrc⟩:=hrel.get he1;rw [Array.getElem?_toList] at hc;exact ⟨i,c.val,by simp [hc],hrc.val⟩
 obtain ⟨ces,res,hm,hfind,hn,hs⟩:=main;have hchk:=checkKey_ok h2 hkf ces.isEmpty w
 have tel:∀ (b:Bool) (u:AV) (c:Value),RelF φ u c->RelT φ (okV ok u b) (if ok=true then .tuple #[c,.bool b] else c):=by
  intro b u c hu;unfold okV;rw [iteB_eq];split
  ·exact .tup (.cons (.val hu) (.cons (.val (.cell (.base (.bool b)))) .nil))
  ·exact hu.toT
 cases r with
 | none=>
  obtain ⟨z,hz,hv⟩:=ob_none_eq hv;cases hv;obtain ⟨i,zv,hi,hiz,hzr⟩:=zeroA_some hz;exact ⟨_,by simp only [execOp,ho,Sem.run_bind,run_lookup hu (ok:=ok) (b:=false) (c:=zv) w hm hchk hfind (.inr ⟨hn rfl,rfl,run_zeroValue hi hiz w⟩)];rfl,tel false z zv (hzr φ)⟩
 | some u=>
  cases hv;obtain ⟨i,c,hres,hrc⟩:=hs u rfl;exact ⟨_,by simp only [execOp,ho,Sem.run_bind,run_lookup hu (ok:=ok) (b:=true) (c:=c) w hm hchk hfind (.inl ⟨i,hres,rfl⟩)];rfl,tel true u c hrc⟩
end
end Go.Proofs.YtcilaocknhphnaaGreat.Ev
namespace Go.Proofs.YtcilaocknhphnaaGreat.Ev
section
variable {P : Program} {φ : Phi}
theorem ok_len {o:Oper} {c:Call} (ho:o.op=.call c) (hb:c.callee=.builtin .len) (hs:isSomeB (headA c.argTypes.toList)=true):RdOk P o (oBuiltin P .len (btC P c.argTypes.toList) c.args.toList):=fun φ tm ρ h w v he hr hv=>by
 have hra:=argsRel ho he;obtain ⟨x,e,hv⟩:=one1'_some hv;rw [e] at hra;obtain ⟨u,em,hx⟩:=hra.one;have em:=toList_one em;obtain ⟨n,h1,h2⟩:=ob_none_eq hv;cases h2;obtain ⟨t,ht,h3,_⟩:=btC_some (P:=P) hs;rw [h3] at h1;refine ⟨goInt n,?_,RelB.toT (.int _ _)⟩
 have fin:(Builtin.len_ c.argTypes o.type #[u]).run P w=.ok (goInt n) w->(execOp ρ o).run P w=.ok (.value (goInt n)) w:=by
  intro q;simp [execOp,ho,resolve,hb,invoke,builtin,em,q]
 refine fin ?_;cases hd:(ti P t).desc <;> rw [hd] at h1 <;> first | (cases h1;done) | skip
 ·have hu:=und_of hd (by simp)
  cases x <;> first | (cases h1;done) | skip
  cases h1;obtain ⟨s,rfl,rfl⟩:=relT_str hx;rw [lenL_eq,codes_length];simp [Builtin.len_,ht,run_underlying hu]
 ·have hu:=und_of hd (by simp)
  cases x <;> first | (cases h1;done) | skip
  ·cases h1;cases relT_nils hx
   simp [Builtin.len_,ht,run_underlying hu]
  ·cases h1
   obtain ⟨p,off,C,hp,rfl,_⟩:=relT_sl hx;simp [Builtin.len_,ht,run_underlying hu]
 ·have hu:=und_of hd (by simp)
  have h1:some _=some n:=h1;cases h1;simp [Builtin.len_,ht,run_underlying hu]
 ·have hu:=und_of hd (by simp)
  cases x <;> first | (cases h1;done) | skip
  ·cases h1;cases relT_nilm hx
   simp [Builtin.len_,ht,run_underlying hu]
  ·obtain ⟨es,hes,h1⟩:=ob_none_eq h1
   cases h1;obtain ⟨p,hp,rfl⟩:=relT_map hx;obtain ⟨ces,clk,hobj,hrel,_,_⟩:=map_some hr hp hes;have hg:(getObj p.b).run P w=.ok (.map ces clk) w:=by simp [getObj,Sem.run,hobj]
   have hl:=hrel.length;rw [Array.length_toList (xs:=ces)] at hl;rw [lenL_eq,hl];simp [Builtin.len_,ht,run_underlying hu,hg]
theorem find_born:∀ {l:List MapEntry} {c:MapEntry},c∈l->(l.map (·.born)).Nodup->l.find? (fun e=>e.born == c.born)=some c
 | d :: l,c,h,hn=>by
  rw [List.map_cons,List.nodup_cons] at hn;rw [List.find?_cons];rcases List.mem_cons.1 h with rfl | h
  ·simp
  ·have:(d.born == c.born)=false:=by
    rw [beq_eq_false_iff_ne];intro e;exact hn.1 (by rw [e];exact List.mem_map.2 ⟨c,h,rfl⟩)
   rw [this];exact find_born h hn.2
theorem isIt_some {v:AV} {b:Nat} (h:isIt v=some b):v=.it b:=by cases v <;> cases h;rfl
theorem iter_some {h:H} {w:World} (r:Rl φ h w) {b:Nat} {p:Pl} (hp:φ b=some p) {m:Nat} {left cur:List (AV × AV)} (hb:h.blk b=.iter m left cur):
  ∃ (pm:Pl) (ces:Array MapEntry) (clk:Nat) (seen:Array Nat),m < h.lo∧φ m=some pm∧w.heap[pm.b]? = some (.map ces clk)∧w.heap[p.b]? = some (.mapIter (some pm.b) clk seen clk)∧L2 (EntRel φ) left (unseen ces seen) ∧
   (∀ e,cur[0]? = some e->∃ c,seen.back? = some c.born∧c∈ces.toList∧EntRel φ e c)∧(∀ c∈ces.toList,c.born < clk)∧(ces.toList.map (·.born)).Nodup:=by
 have:=r b p hp;rw [hb] at this;cases this with
 | iter h0 h1 h2 h3 h4 h5 h6 h7=>exact ⟨_,_,_,_,h0,h1,h2,h3,h4,h5,h6,h7⟩
theorem ok_entry {o:Oper} {i:Operand} (ho:o.op=.entry i):RdOk P o (oEntry (opd i)):=fun φ tm ρ h w v he hr hv=>by
 have hx:=he i (by rw [ho];simp [Op.operands]);obtain ⟨b,e,hv⟩:=ob_none_eq hv;rw [isIt_some e] at hx;obtain ⟨p,hp,ex⟩:=relT_it hx;cases hb:h.blk b <;> rw [hb] at hv <;> first | (cases hv;done) | skip
 rename_i m left cur;obtain ⟨en,hen,hv⟩:=ob_none_eq hv;cases hv;obtain ⟨pm,ces,clk,seen,_,_,hm,hi,_,hc,_,hnd⟩:=iter_some hr hp hb;obtain ⟨c,hc1,hc2,hc3⟩:=hc en (headA_some hen);have hg1:(getObj p.b).run P w=.ok (.mapIter (some pm.b) clk seen clk) w:=by simp [getObj,Sem.run,hi]
 have hg2:(getObj pm.b).run P w=.ok (.map ces clk) w:=by simp [getObj,Sem.run,hm]
 have hf:ces.find? (fun e=>e.born == c.born)=some c:=by
  rw [<- Array.find?_toList];exact find_born hc2 hnd
 exact ⟨.tuple #[c.key,c.val],by simp [execOp,ho,ex,Instr.entry,hg1,hg2,hc1,hf],.tup (.cons (.val hc3.key) (.cons (.val hc3.val) .nil))⟩
end
end Go.Proofs.YtcilaocknhphnaaGreat.Ev
namespace Go.Proofs.YtcilaocknhphnaaGreat.Ev
def V2.all (K:AV->H->Prop):V2->Prop
 | .no=>False
 | .one v h=>K v h
 | .alt x y=>x.all K∧y.all K
theorem V2.all_fold {K:AV->H->Prop} {f:AV->H->V2}:∀ x:V2,(x.fold f).all K->x.all fun v h=>(f v h).all K
 | .no,h=>h
 | .one _ _,h=>h
 | .alt x y,h=>⟨V2.all_fold x h.1,V2.all_fold y h.2⟩
theorem V2.all_bnd {K:AV->H->Prop} {f:AV->H->V2} {x:V2} (h:(x.bnd f).all K):x.all fun v h=>(f v h).all K:=by
 cases x with
 | no=>exact h
 | one _ _=>exact h
 | alt x y=>exact ⟨V2.all_fold x h.1,V2.all_fold y h.2⟩
theorem V2.all_mono {K L:AV->H->Prop} (hk:∀ v h,K v h->L v h):∀ x:V2,x.all K->x.all L
 | .no,h=>h
 | .one _ _,h=>hk _ _ h
 | .alt x y,h=>⟨V2.all_mono hk x h.1,V2.all_mono hk y h.2⟩
theorem ob_all {α:Type} {x:Option α} {f:α->V2} {K:AV->H->Prop} (h:(ob .no x f).all K):∃ a,x=some a∧(f a).all K:=by
 cases x with
 | none=>exact h.elim
 | some a=>exact ⟨a,rfl,h⟩
theorem ob_ob {α β γ:Type} {z:γ} {x:Option α} {f:α->Option β} {g:β->γ}:ob z (ob none x f) g=ob z x fun a=>ob z (f a) g:=by cases x <;> rfl
theorem ob_iteB {α γ:Type} {z:γ} {b:Bool} {x:Option α} {g:α->γ}:ob z (iteB b x none) g=iteB b (ob z x g) z:=by cases b <;> rfl
theorem iteB_all {b:Bool} {x:V2} {K:AV->H->Prop} (h:(iteB b x .no).all K):b=true∧x.all K:=by
 cases b with
 | false=>exact h.elim
 | true=>exact ⟨rfl,h⟩
theorem atPtr_all {v:AV} {f:Nat->Nat->V2} {K:AV->H->Prop} (h:(atPtr .no v f).all K):∃ b o,v=.ptr b o∧(f b o).all K:=by
 cases v <;> first | exact ⟨_,_,rfl,h⟩ | exact h.elim
theorem H.blk_eq (h:H) (b:Nat):h.blk b=(acc Blk.gone b).run h.h:=rfl
theorem H.add_blk (h:H) (x:Blk) (b:Nat):(h.add x).blk b=if b=h.n then x else h.blk b:=by
 show (acc Blk.gone b).run ((upd Blk.gone h.n).run h.h x)=_;rw [acc_upd];rfl
theorem H.add_n (h:H) (x:Blk):(h.add x).n=h.n+1:=rfl
theorem H.add_lo (h:H) (x:Blk):(h.add x).lo=h.lo:=rfl
theorem H.put_some {h h':H} {b:Nat} {x:Blk} (e:h.put b x=some h'):h.lo<=b∧(∀ c,h'.blk c=if c=b then x else h.blk c)∧h'.n=h.n∧h'.lo=h.lo:=by
 obtain ⟨h1,h2⟩:=iteB_some (show iteB (Nat.ble h.lo b) (some (⟨(upd Blk.gone b).run h.h x,h.n,h.lo⟩:H)) none=some h' from e);cases h2;exact ⟨Nat.le_of_ble_eq_true h1,fun c=>by show (acc Blk.gone c).run ((upd Blk.gone b).run h.h x)=_;rw [acc_upd];rfl,rfl,rfl⟩
def Phi.add (φ:Phi) (n:Nat) (p:Pl):Phi:=fun b=>if b=n then some p else φ b
theorem Phi.add_at (φ:Phi) (n:Nat) (p:Pl):φ.add n p n=some p:=by simp [Phi.add]
theorem Phi.add_of {φ:Phi} {n b:Nat} {p:Pl} (h:b≠n):φ.add n p b=φ b:=by simp [Phi.add,h]
theorem Phi.add_ext {φ:Phi} {n:Nat} {p:Pl} (h:φ n=none):Ext φ (φ.add n p):=fun b q e=>by
 rw [Phi.add_of];exact e;rintro rfl;rw [h] at e;cases e
section
variable {P : Program} {φ : Phi} {h : H} {w w' : World}
theorem Rel.fresh (r:Rel φ h w):φ h.n=none:=by
 cases e:φ h.n with
 | none=>rfl
 | some p=>exact absurd (r.dom _ _ e) (Nat.lt_irrefl _)
structure Even (w w' : World) : Prop where
  os : w'.os = w.os
  tape : w'.tape = w.tape
  output : w'.output = w.output
theorem Rel.heap (r:Rel φ h w) (e:w'.heap=w.heap):Rel φ h w' where
 blk b p hp:=(r.blk b p hp).same (by rw [e]) (fun m pm _ _=>by rw [e])
 inj:=r.inj
 low:=r.low
 dom:=r.dom
 inw b p hp:=by rw [e];exact r.inw b p hp
 new:=r.new
 le:=r.le
theorem Stp.heap (e:w'.heap=w.heap) (v:Even w w'):Stp φ h w φ h w':=
 ⟨Ext.refl _,Nat.le_refl _,rfl,fun _ _=>rfl,fun _ _ q=>q,⟨v.os,v.tape,v.output,by rw [e];exact Nat.le_refl _,fun k _ _=>by rw [e]⟩,fun _ _ q=>.inl q⟩
theorem Rel.adopt (r:Rel φ h w) (hold:∀ k,k < w.heap.size->w'.heap[k]? = w.heap[k]?) (v:Even w w') {p:Pl} (hp:w.heap.size<=p.b) (hp':p.b < w'.heap.size) {x:Blk} (hx:BlkOk (φ.add h.n p) h.lo w' p x):
  Rel (φ.add h.n p) (h.add x) w'∧Stp φ h w (φ.add h.n p) (h.add x) w':=by
 have hext:Ext φ (φ.add h.n p):=Phi.add_ext r.fresh;have hsz:w.heap.size < w'.heap.size:=by omega
 have hcase:∀ b q,φ.add h.n p b=some q->(b=h.n∧q=p)∨(b≠h.n∧φ b=some q):=fun b q hq=>by
  by_cases hb:b=h.n
  ·subst hb;rw [Phi.add_at] at hq;cases hq;exact .inl ⟨rfl,rfl⟩
  ·rw [Phi.add_of hb] at hq;exact .inr ⟨hb,hq⟩
 refine ⟨⟨fun b q hq=>?_,fun b c q s hq hs ab ac hbc=>?_,fun b c q s hb hc hq hs ac=>?_,fun b q hq=>?_,fun b q hq=>?_,fun b hb=>?_,Nat.le_succ_of_le r.le⟩,
  ⟨hext,Nat.le_succ _,rfl,fun b hb=>?_,fun b hb=>?_,⟨v.os,v.tape,v.output,by omega,fun k hk _=>hold k hk⟩,fun b q hq=>?_⟩⟩
 ·rw [H.add_blk,H.add_lo]
  rcases hcase b q hq with ⟨rfl,rfl⟩ | ⟨hb,hq⟩
  ·rw [if_pos rfl];exact hx
  ·rw [if_neg hb]
   exact ((r.blk b q hq).same (hold _ (r.inw b q hq)) (fun m pm _ hm=>hold _ (r.inw m pm hm))).ext hext
 ·rw [H.add_blk] at ab ac
  rcases hcase b q hq with ⟨rfl,rfl⟩ | ⟨hb,hq2⟩ <;> rcases hcase c s hs with ⟨rfl,rfl⟩ | ⟨hc,hs2⟩
  ·rfl
  ·have:=r.inw c s hs2;omega
  ·have:=r.inw b q hq2;omega
  ·rw [if_neg hb] at ab;rw [if_neg hc] at ac
   exact r.inj b c q s hq2 hs2 ab ac hbc
 ·rw [H.add_blk] at ac
  rw [H.add_lo] at hb hc;rcases hcase b q hq with ⟨rfl,rfl⟩ | ⟨hb',hq2⟩ <;> rcases hcase c s hs with ⟨rfl,rfl⟩ | ⟨hc',hs2⟩
  ·omega
  ·have:=r.dom c s hs2;omega
  ·have:=r.inw b q hq2;omega
  ·rw [if_neg hc'] at ac
   exact r.low b c q s hb hc hq2 hs2 ac
 ·rw [H.add_n]
  rcases hcase b q hq with ⟨rfl,rfl⟩ | ⟨_,hq⟩
  ·exact Nat.lt_succ_self _
  ·exact Nat.lt_succ_of_lt (r.dom b q hq)
 ·rcases hcase b q hq with ⟨rfl,rfl⟩ | ⟨_,hq⟩
  ·omega
  ·have:=r.inw b q hq;omega
 ·rw [H.add_n] at hb
  rw [H.add_blk,if_neg (by omega)];exact r.new b (by omega)
 ·rw [H.add_blk,if_neg (by have:=r.le;omega)]
 ·rw [H.add_blk,if_neg (by omega)];exact fun q=>q
 ·rcases hcase b q hq with ⟨rfl,rfl⟩ | ⟨_,hq⟩
  ·exact .inr ⟨Nat.le_refl _,.inl (by omega)⟩
  ·exact .inl hq
theorem Rel.grow (r:Rel φ h w) {g:Obj} (e:w'.heap=w.heap.push g) (v:Even w w') {p:Pl} (hp:p.b=w.heap.size) {x:Blk} (hx:BlkOk (φ.add h.n p) h.lo w' p x):
  Rel (φ.add h.n p) (h.add x) w'∧Stp φ h w (φ.add h.n p) (h.add x) w':=
 r.adopt (fun k hk=>by rw [e,Array.getElem?_push];rw [if_neg (by omega)]) v (by omega) (by rw [e,hp];simp) hx
theorem BlkOk.still {φ:Phi} {lo:Nat} {w w':World} {p:Pl} {x:Blk} (r:BlkOk φ lo w p x) (h:w'.heap[p.b]? = w.heap[p.b]?) (hm:∀ (k:Nat) (ces:Array MapEntry) (clk:Nat),w.heap[k]? = some (Obj.map ces clk)->w'.heap[k]? = w.heap[k]?):BlkOk φ lo w' p x:=by
 cases r with
 | row h1 h2 h3 h4=>exact .row (h.trans h1) h2 h3 h4
 | map h1 h2 h3 h4=>exact .map (h.trans h1) h2 h3 h4
 | iter h0 h1 h2 h3 h4 h5 h6 h7=>exact .iter h0 h1 ((hm _ _ _ h2).trans h2) (h.trans h3) h4 h5 h6 h7
 | loop h1 h2 h3 h4 h5 h6 h7=>exact .loop (h.trans h1) h2 h3 h4 h5 h6 h7
 | gone=>exact .gone
def isDef:Obj->Bool
 | .deferred _=>true
 | _=>false
theorem BlkOk.notDef {φ:Phi} {lo:Nat} {w:World} {p:Pl} {x:Blk} (r:BlkOk φ lo w p x) (ha:x.alive=true) {o:Obj} (ho:w.heap[p.b]? = some o):isDef o=false:=by
 cases r <;> first | (cases ha;done) | skip
 ·rename_i h1 _ _ _;rw [h1] at ho;cases ho;rfl
 ·rename_i h1 _ _ _;rw [h1] at ho;cases ho;rfl
 ·rename_i h3 _ _ _ _;rw [h3] at ho;cases ho;rfl
 ·rename_i h1 _ _ _ _ _ _;rw [h1] at ho;cases ho;rfl
theorem Rel.defs (r:Rel φ h w) (hsz:w.heap.size<=w'.heap.size) (ho:∀ (k:Nat) (o:Obj),w.heap[k]? = some o->isDef o=false->w'.heap[k]? = some o):Rel φ h w' where
 blk b p hp:=by
  cases ha:(h.blk b).alive with
  | false=>
   have:h.blk b=.gone:=by cases e:h.blk b <;> rw [e] at ha <;> first | rfl | cases ha
   rw [this];exact .gone
  | true=>
   have hk:=r.blk b p hp;have hlt:=r.inw b p hp;refine hk.still ?_ fun k ces clk hm=>by rw [hm];exact ho _ _ hm rfl
   have e:w.heap[p.b]? = some w.heap[p.b]:=Array.getElem?_eq_getElem hlt;rw [e];exact ho _ _ e (hk.notDef ha e)
 inj:=r.inj
 low:=r.low
 dom:=r.dom
 inw b p hp:=Nat.lt_of_lt_of_le (r.inw b p hp) hsz
 new:=r.new
 le:=r.le
theorem Rel.write (r:Rel φ h w) {b:Nat} {p:Pl} (hp:φ b=some p) (ha:(h.blk b).alive=true) {x:Blk} {h':H} (hh:h.put b x=some h')
  (hsz:w'.heap.size=w.heap.size) (v:Even w w') (ho:∀ k,k≠p.b->w'.heap[k]? = w.heap[k]?) (hx:BlkOk φ h.lo w' p x):Rel φ h' w'∧Stp φ h w φ h' w':=by
 obtain ⟨hlo,hblk,hn,hl⟩:=H.put_some hh
 have hal:∀ c,(h'.blk c).alive=true->(h.blk c).alive=true:=fun c hc=>by
  rw [hblk] at hc;split at hc
  ·rename_i e;rw [e];exact ha
  ·exact hc
 refine ⟨⟨fun c q hq=>?_,fun c d q s hq hs ac ad=>r.inj c d q s hq hs (hal c ac) (hal d ad),fun c d q s hc hd hq hs ad=>r.low c d q s (by omega) (by omega) hq hs (hal d ad),
   fun c q hq=>by rw [hn];exact r.dom c q hq,fun c q hq=>by rw [hsz];exact r.inw c q hq,fun c hc=>?_,by rw [hl,hn];exact r.le⟩,
  ⟨Ext.refl φ,by omega,hl,fun c hc=>?_,fun c _ hc=>hal c hc,⟨v.os,v.tape,v.output,by omega,fun k hk hw=>ho k ?_⟩,fun c q hq=>.inl hq⟩⟩
 ·rw [hblk,hl]
  split
  ·rename_i e;subst e;rw [hp] at hq;cases hq;exact hx
  ·rename_i hcb
   cases hc:(h.blk c).alive with
   | false=>
    have:h.blk c=.gone:=by cases e:h.blk c <;> rw [e] at hc <;> first | rfl | cases hc
    rw [this];exact .gone
   | true=>
    refine (r.blk c q hq).same (ho _ fun e=>hcb (r.inj c b q p hq hp hc ha e)) fun m pm hm hpm=>ho _ fun e=>r.low m b pm p hm hlo hpm hp ha e
 ·rw [hblk,if_neg ?_]
  ·exact r.new c (by omega)
  ·rintro rfl
   have:=r.dom _ _ hp;omega
 ·rw [hblk,if_neg (by omega)]
 ·rintro rfl
  exact hw ⟨b,p,hlo,hp,rfl,ha⟩
def Told (n:Next) (c:Value):Prop:=n=.value c∨(n=.skip∧c=undef)
def GeOk (P:Program) (o:Oper) (f:OpF):Prop:=∀ call φ tm ρ h w K,EvRel φ tm ρ o.op.operands->Rel φ h w->(f call tm h).all K ->
 ∃ v h' ψ w' n c,K v h'∧(execOp ρ o).run P w=.ok n w'∧Told n c∧RelT ψ v c∧Rel ψ h' w'∧Stp φ h w ψ h' w'
def AlOk (P:Program) (o:Oper) (f:OpF):Prop:=∃ al:Tm->Option (Blk × (Nat->AV)),(∀ call tm h,f call tm h=ob .no (al tm) fun x=>.one (x.2 h.n) (h.add x.1)) ∧
 ∀ φ tm ρ w x,EvRel φ tm ρ o.op.operands->al tm=some x->∃ (g:Obj) (k:Nat) (c:Value),(execOp ρ o).run P w=.ok (.value c) (w.alloc g) ∧
  ∀ ψ n lo w',Ext φ ψ->ψ n=some ⟨w.heap.size,0,k⟩->w'.heap[w.heap.size]? = some g->RelT ψ (x.2 n) c∧BlkOk ψ lo w' ⟨w.heap.size,0,k⟩ x.1
theorem AlOk.ge {o:Oper} {f:OpF} (ha:AlOk P o f):GeOk P o f:=fun call φ tm ρ h w K he hr hk=>by
 obtain ⟨al,h1,h2⟩:=ha;rw [h1] at hk;obtain ⟨x,hx,hk⟩:=ob_all hk;obtain ⟨g,k,c,h3,h4⟩:=h2 φ tm ρ w x he hx;have hsz:(w.alloc g).heap[w.heap.size]? = some g:=by show (w.heap.push g)[w.heap.size]? = some g;simp
 obtain ⟨h5,h6⟩:=h4 (φ.add h.n ⟨w.heap.size,0,k⟩) h.n h.lo (w.alloc g) (Phi.add_ext hr.fresh) (Phi.add_at _ _ _) hsz;obtain ⟨h7,h8⟩:=hr.grow (g:=g) (w':=w.alloc g) rfl ⟨rfl,rfl,rfl⟩ (p:=⟨w.heap.size,0,k⟩) rfl h6;exact ⟨_,_,_,_,_,c,hk,h3,.inl rfl,h5,h7,h8⟩
theorem run_newRow (t:TypeId) (cs:Array Value) (w:World):(Go.newRow t cs).run P w=.ok ⟨w.heap.size,0,none⟩ (w.alloc (.cells cs t)):=by
 simp [Go.newRow,newObj,Sem.run,Sem.run_bind]
theorem row_new {t T:TypeId} {cs:List AV} {C:Array Value} (hc:L2 (RelS φ) cs C.toList) {ψ:Phi} (he:Ext φ ψ) {k:Nat} (hk:k<=C.size) (hl:cs.length<=k) {lo:Nat} {s:Nat} (hw:w'.heap[s]? = some (.cells C T)):BlkOk ψ lo w' ⟨s,0,k⟩ (.row t cs):=by
 refine .row hw (by simpa using hk) hl fun i x hx=>?_;obtain ⟨v,h1,h2⟩:=hc.get hx;exact ⟨v,by simpa using h1,h2.ext he⟩
theorem ok_alloc {o:Oper} {t:TypeId} (ho:o.op=.alloc t):AlOk P o (fun _ _ h=>ob .no (zcells P t) fun z=>newPtr h t z):=by
 refine ⟨fun _=>ob none (zcells P t) fun z=>some (.row t z,fun n=>.ptr n 0),fun call tm h=>(by simp only [ob_ob];rfl),fun φ tm ρ w x he hx=>?_⟩;obtain ⟨z,h1,h2⟩:=ob_none_eq hx;cases h2;obtain ⟨i,Z,hi,hz,hr⟩:=zcells_some h1;refine ⟨.cells Z.cells t,Z.cells.size,.pointer (some ⟨w.heap.size,0,none⟩),?_,fun ψ n lo w' he hn hw=>⟨?_,?_⟩⟩
 ·simp [execOp,ho,Instr.alloc,run_zeroValue hi hz,newVar,run_newRow]
 ·exact RelB.toT (by simpa using RelB.ptr (φ:=ψ) (o:=0) hn)
 ·exact row_new (hr ψ) (Ext.refl _) (Nat.le_refl _) (by have:=(hr ψ).length;rw [Array.length_toList (xs:=Z.cells)] at this;omega) hw
theorem ok_box {o:Oper} {t:TypeId} {x:Operand} (ho:o.op=.box t x):AlOk P o (fun _ tm h=>ob .no (cellsOf ((opd x).run tm)) fun z=>newPtr h t z):=by
 refine ⟨fun tm=>ob none (cellsOf ((opd x).run tm)) fun z=>some (.row t z,fun n=>.ptr n 0),fun call tm h=>(by simp only [ob_ob];rfl),fun φ tm ρ w y he hy=>?_⟩;obtain ⟨z,h1,h2⟩:=ob_none_eq hy;cases h2;have hx:=he x (by rw [ho];simp [Op.operands]);have hr:=cellsOf_rel hx h1;refine ⟨.cells (ρ x).cells t,(ρ x).cells.size,.pointer (some ⟨w.heap.size,0,none⟩),?_,fun ψ n lo w' he hn hw=>⟨?_,?_⟩⟩
 ·simp [execOp,ho,Instr.box,newVar,run_newRow]
 ·exact RelB.toT (by simpa using RelB.ptr (φ:=ψ) (o:=0) hn)
 ·exact row_new hr he (Nat.le_refl _) (by have:=hr.length;rw [Array.length_toList (xs:=(ρ x).cells)] at this;omega) hw
theorem ok_makeMap {o:Oper} {t:TypeId} {r:Option Operand} (ho:o.op=.makeMap t r):∀ f,oMakeMap P t r=.ge f->AlOk P o f:=by
 have key:∀ (ψ:Phi) (n lo:Nat) (w w':World),ψ n=some ⟨w.heap.size,0,0⟩->w'.heap[w.heap.size]? = some (.map #[] 0)->RelT ψ (.map n) (.map (some w.heap.size))∧BlkOk ψ lo w' ⟨w.heap.size,0,0⟩ (.map []):=fun ψ n lo w w' hn hw=>
  ⟨RelB.toT (RelB.map (p:=⟨w.heap.size,0,0⟩) hn),.map hw .nil (by simp) (by simp)⟩
 cases r with
 | none=>
  intro f hf;cases hf;refine ⟨fun _=>some (.map [],.map),fun _ _ _=>rfl,fun φ tm ρ w y he hy=>?_⟩;cases hy;exact ⟨.map #[] 0,0,.map (some w.heap.size),by simp [execOp,ho,Instr.makeMap,newObj,Sem.run],fun ψ n lo w' _ hn hw=>key ψ n lo w w' hn hw⟩
 | some r=>
  intro f hf;unfold oMakeMap at hf;cases hm:isMapD (ti P t).desc with
  | false=>rw [hm] at hf;cases hf
  | true=>
   rw [hm] at hf;cases hf;obtain ⟨k,e,hd⟩:∃ k e,(ti P t).desc=.map k e:=by cases hd:(ti P t).desc <;> rw [hd] at hm <;> first | exact ⟨_,_,rfl⟩ | cases hm
   have hu:=und_of hd (by simp);refine ⟨fun tm=>ob none (natOf ((opd r).run tm)) fun _=>some (.map [],.map),fun call tm h=>(by simp only [ob_ob];rfl),fun φ tm ρ w y he hy=>?_⟩;obtain ⟨n,h1,h2⟩:=ob_none_eq hy;cases h2;obtain ⟨kk,h3⟩:=natOf_some h1;have hx:=he r (by rw [ho];simp [Op.operands]);rw [h3] at hx;have hx:=relT_int hx;exact ⟨.map #[] 0,0,.map (some w.heap.size),by simp [execOp,ho,Instr.makeMap,hx,asInt,asIntOf,run_underlying hu,newObj,Sem.run],fun ψ n lo w' _ hn hw=>key ψ n lo w w' hn hw⟩
end
end Go.Proofs.YtcilaocknhphnaaGreat.Ev
namespace Go.Proofs.YtcilaocknhphnaaGreat.Ev
section
variable {P : Program} {φ : Phi} {h : H} {w w' : World}
theorem rep_rel {z:List AV} {Z:Array Value} (hz:L2 (RelS φ) z Z.toList) (n:Nat):L2 (RelS φ) (rep n z) ((Array.range (n*Z.size)).map fun i=>Z[i % Z.size]!).toList:=by
 have hl:=hz.length;rw [Array.length_toList (xs:=Z)] at hl;refine L2.of_get (by rw [rep_length];simp [hl]) fun i a b ha hb=>?_
 have hi:i < n*z.length:=by
  have:=(List.getElem?_eq_some_iff.1 ha).1;rwa [rep_length] at this
 rw [rep_get _ _ _ hi] at ha;obtain ⟨c,hc,hr⟩:=hz.get ha
 have hb:Z[i % Z.size]! = b:=by
  rw [Array.getElem?_toList,Array.getElem?_map,Array.getElem?_range,if_pos (by rw [<- hl];exact hi)] at hb
  simpa using hb
 rw [Array.getElem?_toList,hl] at hc;rw [Array.getElem!_eq_getD,Array.getD_eq_getD_getElem?,hc] at hb;cases hb;exact hr
theorem elemS_some {t e:TypeId} (h:(elemS P t).l=some e):P.underlying t=some (.slice e):=by
 have h:elemD (ti P t).desc=some e:=h;cases hd:(ti P t).desc <;> rw [hd] at h <;> first | (cases h;done) | skip
 cases h;exact und_of hd (by simp)
theorem wrap_small {n:Nat} (h:n<=1048576):IntKind.i64.wrap (n:Int)=(n:Int):=by rw [IntKind.wrap_i64];omega
theorem ok_buildSlice {o:Oper} {t:TypeId} {n:Nat} {ps:Array (Nat × Operand)} (ho:o.op=.buildSlice t n ps):∀ f,oBuildSlice P t n ps=.ge f->AlOk P o f:=fun f hf=>by
 cases hf
 refine ⟨fun tm=>ob none (elemS P t).l fun e=>iteB (andB (ti P e).zok (Nat.ble (Nat.mul n (ti P e).size) 16777216)) (ob none (fillP (fun i=>some (Nat.mul i (ti P e).size,(ti P e).size)) tm ps.toList (rep n (ti P e).zero)) fun l=>
  some (.row e l,fun b=>.sl b 0 n n 0)) none,fun call tm h=>(by simp only [ob_ob,ob_iteB];rfl),fun φ tm ρ w y he hy=>?_⟩
 obtain ⟨e,h1,hy⟩:=ob_none_eq hy;obtain ⟨h2,hy⟩:=iteB_some hy;obtain ⟨h2,h3⟩:=andB_iff.1 h2;obtain ⟨l,h4,hy⟩:=ob_none_eq hy;cases hy;have hu:=elemS_some h1;obtain ⟨i,Z,hi,hz,hr,hlen⟩:=zok_some h2;have hsz:Z.cells.size=P.cellsOf e:=by have:=(hr φ).length;rw [Array.length_toList (xs:=Z.cells)] at this;omega
 have h3:n*P.cellsOf e<=16777216:=by have:=Nat.le_of_ble_eq_true h3;rwa [ti_size] at this
 have hops:∀ p∈ps.toList,RelT φ ((opd p.2).run tm) (ρ p.2):=fun p hp=>he p.2 (by rw [ho];simp [Op.operands];exact ⟨p.1,by simpa using hp⟩);obtain ⟨C,h5,h6⟩:=fill_rel (φ:=φ) (ρ:=ρ) (place':=fun i=>some (i*P.cellsOf e,P.cellsOf e)) (by intro i q hq;rw [<- ti_size];exact hq) ps.toList _ l _ hops (rep_rel (hr φ) n) h4;rw [hsz] at h5;refine ⟨.cells C e,C.size,.slice (some ⟨w.heap.size,0,none⟩) n n,?_,fun ψ m lo w' he hn hw=>⟨?_,?_⟩⟩
 ·have emap:(ps.map fun (x:Nat × Operand)=>(x.1,ρ x.2)).toList=ps.toList.map fun p=>(p.1,ρ p.2):=by simp
  by_cases h0:n*P.cellsOf e=0
  ·rw [h0] at h5
   have e0:(Array.range 0).map (fun i=>Z.cells[i % P.cellsOf e]!)=#[]:=by simp
   rw [e0] at h5;have e1:(Array.range 0).map (fun _=>(default:Value))=#[]:=by simp
   simp [execOp,ho,Instr.buildSlice,run_underlying hu,run_sizeOf hi,h0,e1,h5,run_newRow]
  ·simp only [execOp,ho,Instr.buildSlice,Sem.run_bind,run_underlying hu,run_sizeOf hi,Result.andThen_ok,if_neg h0,if_neg (show ¬ n*P.cellsOf e > 2 ^ 24 by omega),run_zeroValue hi hz,Sem.run_pure,emap,hsz,h5,run_newRow]
 ·exact RelB.toT (by simpa using RelB.sl (φ:=ψ) (o:=0) (n:=n) (c:=n) (C:=n) (q:=0) (off:=0) hn (.inl rfl) (Nat.le_refl _) (Nat.le_refl _) (fun _=>rfl) (by simp))
 ·exact row_new h6 he (Nat.le_refl _) (by have:=h6.length;rw [Array.length_toList (xs:=C)] at this;omega) hw
theorem ok_makeSlice {o:Oper} {t:TypeId} {l c:Operand} (ho:o.op=.makeSlice t l c):∀ f,oMakeSlice P t (opd l) (opd c)=.ge f->AlOk P o f:=fun f hf=>by
 cases hf
 refine ⟨fun tm=>ob none (elemS P t).l fun e=>ob none (natOf ((opd l).run tm)) fun n=>ob none (natOf ((opd c).run tm)) fun c=>
  iteB (andB (ti P e).zok (andB (Nat.ble n c) (andB (Nat.ble c 1048576) (Nat.ble (bytesT P e) 1048576)))) (some (.row e (rep c (ti P e).zero),fun b=>.sl b 0 n c 0)) none,
  fun call tm h=>(by simp only [ob_ob,ob_iteB];rfl),fun φ tm ρ w y he hy=>?_⟩
 obtain ⟨e,h1,hy⟩:=ob_none_eq hy;obtain ⟨n,h2,hy⟩:=ob_none_eq hy;obtain ⟨m,h3,hy⟩:=ob_none_eq hy;obtain ⟨h4,hy⟩:=iteB_some hy;obtain ⟨h4,h5⟩:=andB_iff.1 h4;obtain ⟨h5,h6⟩:=andB_iff.1 h5;obtain ⟨h6,h7⟩:=andB_iff.1 h6;cases hy;have h5:=Nat.le_of_ble_eq_true h5;have h6:=Nat.le_of_ble_eq_true h6;have h7:=Nat.le_of_ble_eq_true h7;have hu:=elemS_some h1;obtain ⟨i,Z,hi,hz,hr,hlen⟩:=zok_some h4;have hsz:Z.cells.size=P.cellsOf e:=by have:=(hr φ).length;rw [Array.length_toList (xs:=Z.cells)] at this;omega
 have hb:i.bytes<=1048576:=by rw [bytesT_eq] at h7;simpa [Program.bytesOf,hi] using h7
 have hops:∀ x,x=l∨x=c->RelT φ ((opd x).run tm) (ρ x):=fun x hx=>he x (by rw [ho];rcases hx with rfl | rfl <;> simp [Op.operands]);obtain ⟨k1,e1⟩:=natOf_some h2;obtain ⟨k2,e2⟩:=natOf_some h3;have hl:=hops l (.inl rfl);have hc:=hops c (.inr rfl);rw [e1] at hl;rw [e2] at hc;have hl:=relT_int hl;have hc:=relT_int hc;have hmul:i.bytes*m<=1099511627776:=Nat.le_trans (Nat.mul_le_mul hb h6) (by decide);have hrel:=rep_rel (hr φ) m;generalize hC:(Array.range (m*Z.cells.size)).map (fun i=>Z.cells[i % Z.cells.size]!)=C at hrel;refine ⟨.cells C e,C.size,.slice (some ⟨w.heap.size,0,none⟩) n m,?_,fun ψ b lo w' he hn hw=>⟨?_,?_⟩⟩
 ·have w1:IntKind.i64.wrap (Int.ofNat n)=(n:Int):=wrap_small (by omega)
  have w2:IntKind.i64.wrap (Int.ofNat m)=(m:Int):=wrap_small (by omega)
  have t1:¬ (281474976710656 < (i.bytes:Int)*(m:Int)):=by
   have:(i.bytes:Int)*(m:Int)=((i.bytes*m:Nat):Int):=by simp
   omega
  have t2:¬ ((m:Int) < (n:Int)):=by omega
  have t3:¬ (m*i.bytes > roomBytes):=by rw [Nat.mul_comm];unfold roomBytes;omega
  simp only [execOp,ho,Instr.makeSlice,hl,hc,asInt,asIntOf,Sem.run_bind,Sem.run_pure,run_underlying hu,Result.andThen_ok,run_typeInfo hi,w1,w2,run_sizeOf hi]
  have hcond:(decide ((m:Int) < 0) || decide ((i.bytes:Int)*(m:Int) > 2 ^ 48) || decide ((n:Int) < 0) || decide ((n:Int) > (m:Int)))=false:=by
   have a1:¬ ((m:Int) < 0):=by omega
   have a2:¬ ((n:Int) < 0):=by omega
   have a3:¬ ((n:Int) > (m:Int)):=by omega
   have a4:¬ ((i.bytes:Int)*(m:Int) > 2 ^ 48):=by omega
   simp only [a1,a2,a3,a4,decide_false,Bool.or_self]
  simp only [hcond];by_cases h0:m*P.cellsOf e=0
  ·have:C=#[]:=by rw [<- hC,hsz,h0];simp
   have e1:(Array.range 0).map (fun _=>(default:Value))=#[]:=by simp
   simp [askRoom,t3,run_sizeOf hi,h0,e1,run_newRow,this]
  ·rw [hsz] at hC
   simp [askRoom,t3,run_sizeOf hi,h0,run_newRow,run_zeroValue hi hz,hsz,hC]
 ·exact RelB.toT (by simpa using RelB.sl (φ:=ψ) (o:=0) (n:=n) (c:=m) (C:=m) (q:=0) (off:=0) hn (.inl rfl) h5 (Nat.le_refl _) (fun _=>rfl) (by simp))
 ·exact row_new hrel he (Nat.le_refl _) (by have:=hrel.length;rw [Array.length_toList (xs:=C)] at this;omega) hw
end
end Go.Proofs.YtcilaocknhphnaaGreat.Ev
namespace Go.Proofs.YtcilaocknhphnaaGreat.Ev
section
variable {P : Program} {φ : Phi} {h : H} {w w' : World}
theorem cell_one {x:AV} {v:Value} (h:RelS φ x v):v.oneCell'=true:=by
 cases h with
 | base r=>cases r <;> rfl
 | fn _ _=>rfl
theorem cellsL_one {l:List AV} {L:List Value} (h:L2 (RelS φ) l L):∀ v∈L,v.oneCell'=true:=by
 induction h with
 | nil=>simp
 | cons hr _ ih=>intro v hv;rcases List.mem_cons.1 hv with rfl | hv;exact cell_one hr;exact ih v hv
theorem row_alive {b:Nat} {r:List AV} (hr:h.row b=some r):(h.blk b).alive=true:=by
 unfold H.row at hr;cases e:h.blk b <;> rw [e] at hr <;> first | rfl | cases hr
theorem map_alive {b:Nat} {r:List (AV × AV)} (hr:h.map b=some r):(h.blk b).alive=true:=by
 unfold H.map at hr;cases e:h.blk b <;> rw [e] at hr <;> first | rfl | cases hr
theorem lay_row (r:Rel φ h w) {b o:Nat} {p:Pl} (hp:φ b=some p) {cs l L:List AV} {V:List Value} {T:Nat} (hb:h.row b=some cs) (hl:splice o L cs=some l) (hv:L2 (RelS φ) L V) {h':H} (hh:h.put b (.row T l)=some h'):
  ∃ w',(storeCells ⟨p.b,p.s+o,none⟩ V).run P w=.ok () w'∧Rel φ h' w'∧Stp φ h w φ h' w':=by
 obtain ⟨C,T',ra⟩:=row_some r.rl hp hb;obtain ⟨e1,e2⟩:=splice_some _ _ _ _ hl;obtain ⟨e3,e4⟩:=splice_get hl;have hVL:=hv.length;have hroom:=ra.room;have hlen:=ra.len;have hst:=run_storeCells_at P p.b (p.s+o) T' V 0 C w ra.obj (by omega) (cellsL_one hv);refine ⟨_,hst,?_⟩
 have hsz:(C.toList.take (p.s+o+0)++V++C.toList.drop (p.s+o+0+V.length)).length=C.size:=by
  simp;omega
 refine r.write hp (row_alive hb) hh (by simp [World.setRow]) ⟨rfl,rfl,rfl⟩ (fun k hk=>setRow_other _ _ _ _ hk) ?_;refine .row (T:=T') (setRow_heap _ _ _ _ _ _ ra.obj) (by simp;omega) (by omega) fun i x hx=>?_;rw [e4] at hx;rw [List.getElem?_toArray,List.append_assoc];split at hx
 ·rename_i hi
  obtain ⟨v,h1,h2⟩:=hv.get hx;refine ⟨v,?_,h2⟩;rw [List.getElem?_append_right (by simp;omega),List.getElem?_append_left (by simp;omega)];rw [show p.s+i - (C.toList.take (p.s+o+0)).length=i - o by simp;omega];exact h1
 ·rename_i hi
  obtain ⟨v,h1,h2⟩:=ra.cell _ _ hx;refine ⟨v,?_,h2⟩;by_cases hio:i < o
  ·rw [List.getElem?_append_left (by simp;omega),List.getElem?_take,if_pos (by omega),Array.getElem?_toList]
   exact h1
  ·have:i < cs.length:=(List.getElem?_eq_some_iff.1 hx).1
   rw [List.getElem?_append_right (by simp;omega),List.getElem?_append_right (by simp;omega),List.getElem?_drop,Array.getElem?_toList];rw [show p.s+o+0+V.length+(p.s+i - (C.toList.take (p.s+o+0)).length - V.length)=p.s+i by simp;omega];exact h1
theorem lay_all {b o:Nat} {L:List AV} {f:H->V2} {K:AV->H->Prop} (hk:(layRow h b o L f).all K):
  ∃ cs l h',h.row b=some cs∧splice o L cs=some l∧h.put b (.row (typeRow (h.blk b)) l)=some h'∧(f h').all K:=by
 obtain ⟨cs,h1,hk⟩:=ob_all hk;obtain ⟨l,h2,hk⟩:=ob_all hk;obtain ⟨h',h3,hk⟩:=ob_all hk;exact ⟨cs,l,h',h1,h2,h3,hk⟩
theorem relT_undef:RelT φ .bad undef:=.one .bad
theorem ok_store {o:Oper} {t:TypeId} {a x:Operand} (ho:o.op=.store t a x):∀ f,oStore P t (opd a) (opd x)=.ge f->GeOk P o f:=fun f hf=>by
 unfold oStore at hf;cases hkn:(ti P t).kn with
 | false=>rw [hkn] at hf;cases hf
 | true=>
  rw [hkn] at hf;cases hf;intro call φ tm ρ h w K he hr hk;obtain ⟨b,q,e1,hk⟩:=atPtr_all hk;obtain ⟨cs,e2,hk⟩:=ob_all hk;obtain ⟨e3,hk⟩:=iteB_all hk;obtain ⟨rs,l,h',e4,e5,e6,hk⟩:=lay_all hk;have ha:=he a (by rw [ho];simp [Op.operands]);have hx:=he x (by rw [ho];simp [Op.operands]);rw [e1] at ha;obtain ⟨p,hp,ea⟩:=relT_ptr ha;have hc:=cellsOf_rel hx e2;obtain ⟨i,hi⟩:=kn_some hkn
  have hsz:(ρ x).cells.size=P.cellsOf t:=by
   have h1:=hc.length;have h2:=Nat.eq_of_beq_eq_true e3;rw [lenL_eq,ti_size] at h2;rw [Array.length_toList (xs:=(ρ x).cells)] at h1;omega
  obtain ⟨w',h1,h2,h3⟩:=lay_row (P:=P) hr hp e4 e5 hc e6;exact ⟨.bad,h',φ,w',.skip,undef,hk,by simp [execOp,ho,ea,Instr.storeAt,Instr.sureAddr,storeVar,run_sizeOf hi,hsz,h1],.inr ⟨rfl,rfl⟩,relT_undef,h2,h3⟩
end
end Go.Proofs.YtcilaocknhphnaaGreat.Ev
namespace Go.Proofs.YtcilaocknhphnaaGreat.Ev
section
variable {P : Program} {φ : Phi} {h : H} {w w' : World}
theorem bytes_self (s:ByteArray):(s == s)=true:=by
 obtain ⟨d⟩:=s;show (d == d)=true;simp
theorem eqC_true {a b:AV} (h:eqC a b=some true) {u v:Value} (hu:RelS φ a u) (hv:RelS φ b v):u=v∧∀ n,Instr.sameBits n u v=true:=by
 cases a <;> first | (cases h;done) | skip
 ·cases b <;> first | (cases h;done) | skip
  rename_i x y;cases relT_bool hu.toT;cases relT_bool hv.toT;have:x=y:=by simpa [eqC] using h
  subst this;exact ⟨rfl,fun n=>by cases n <;> simp [Instr.sameBits]⟩
 ·cases b <;> first | (cases h;done) | skip
  rename_i j x k y;cases relT_int hu.toT;cases relT_int hv.toT;obtain ⟨h1,h2⟩:=iteB_some (show iteB (Nat.beq (kn j) (kn k)) (some (eqI x y)) none=some true from h);have e1:=kn_inj h1;have e2:x=y:=by simp only [Option.some.injEq,eqI_eq,beq_iff_eq] at h2;exact h2
  subst e1;subst e2;exact ⟨rfl,fun n=>by cases n <;> simp [Instr.sameBits]⟩
 ·cases b <;> first | (cases h;done) | skip
  obtain ⟨s,rfl,rfl⟩:=relT_str hu.toT;obtain ⟨s',rfl,rfl⟩:=relT_str hv.toT;have:eqNs (codes s) (codes s')=true:=by simpa [eqC] using h
  rw [eqNs_iff,decide_eq_true_eq] at this;have:=codes_inj this;subst this;exact ⟨rfl,fun n=>by cases n <;> exact bytes_self s⟩
theorem eqL_true:∀ {A B:List AV} {U V:List Value},eqL A B=some true->L2 (RelS φ) A U->L2 (RelS φ) B V->U=V∧∀ n,(U.zip V).all (fun p=>Instr.sameBits n p.1 p.2)=true
 | [],[],_,_,_,hu,hv=>by cases hu;cases hv;exact ⟨rfl,fun _=>rfl⟩
 | [],_ :: _,_,_,h,_,_=>by cases h
 | a :: A,B,U,V,h,hu,hv=>by
  cases B with
  | nil=>cases h
  | cons b B=>
   obtain ⟨r1,r2,h1,h2,h3⟩:=eqL_cons h;have h3:=h3.symm;rw [Bool.and_eq_true] at h3;obtain ⟨rfl,rfl⟩:=h3;cases hu with | cons hu1 hu2=>
   cases hv with | cons hv1 hv2=>
   obtain ⟨rfl,e1⟩:=eqC_true h1 hu1 hv1;obtain ⟨rfl,e2⟩:=eqL_true h2 hu2 hv2;exact ⟨rfl,fun n=>by simp [List.zip_cons_cons,e1,e2 n]⟩
theorem eqK_true {a b:AV} (h:eqK a b=some true) {u v:Value} (hu:RelF φ a u) (hv:RelF φ b v):u=v∧∀ n,Instr.sameBits (n+1) u v=true:=by
 cases hu with
 | cell hu=>
  have hC:eqC a b=some true:=by
   cases a <;> first | exact h | skip
   have:=hu.one;exact absurd hu (by rintro ⟨⟩;rename_i q;cases q)
  cases hv with
  | cell hv=>
   obtain ⟨e1,e2⟩:=eqC_true hC hu hv;exact ⟨e1,fun n=>e2 _⟩
  | agg _=>cases a <;> cases hC
 | agg hu=>
  cases hv with
  | cell hv=>
   cases b <;> first | (cases h;done) | skip
   exact absurd hv (by rintro ⟨⟩;rename_i q;cases q)
  | agg hv=>
   rename_i U _ V;obtain ⟨e1,e2⟩:=eqL_true h hu hv;have e3:U=V:=Array.toList_inj.1 e1;subst e3;exact ⟨rfl,fun n=>by have:=e2 n;simpa [Instr.sameBits] using this⟩
theorem L2.set {α β:Type} {R:α->β->Prop} {l:List α} {m:List β} (h:L2 R l m):∀ {i:Nat} {a:α} {f:β->β},(∀ c,m[i]? = some c->R a (f c))->L2 R (l.set i a) (m.modify i f):=by
 induction h with
 | nil=>intro i a f _;simpa using L2.nil
 | cons hr h ih=>
  intro i a f hf;cases i with
  | zero=>exact .cons (hf _ rfl) h
  | succ i=>exact .cons hr (ih fun c hc=>hf c (by simpa using hc))
theorem L2.erase {α β:Type} {R:α->β->Prop} {l:List α} {m:List β} (h:L2 R l m):∀ i,L2 R (l.eraseIdx i) (m.eraseIdx i):=by
 induction h with
 | nil=>intro i;simpa using L2.nil
 | cons hr h ih=>intro i;cases i with
  | zero=>exact h
  | succ i=>exact .cons hr (ih i)
theorem run_setObj {r:Nat} {o o':Obj} (ho:w.heap[r]? = some o) (hc:∀ C T f,o≠.cells C T f):(setObj r o').run P w=.ok () { w with heap:=w.heap.setIfInBounds r o' }:=by
 cases o <;> first | exact absurd rfl (hc _ _ _) | simp [setObj,Sem.run,ho]
theorem set_at {r:Nat} {o o':Obj} (ho:w.heap[r]? = some o):(w.heap.setIfInBounds r o')[r]? = some o':=by
 have:=(Array.getElem?_eq_some_iff.1 ho).1;simp [Array.getElem?_setIfInBounds,this]
theorem set_other {r k:Nat} {o':Obj} (hk:k≠r):(w.heap.setIfInBounds r o')[k]? = w.heap[k]?:=by
 rw [Array.getElem?_setIfInBounds,if_neg (fun e=>hk e.symm)]
theorem modify_born (l:List MapEntry) (i:Nat) (f:MapEntry->MapEntry) (hf:∀ c,(f c).born=c.born):(l.modify i f).map (·.born)=l.map (·.born):=by
 induction l generalizing i with
 | nil=>simp
 | cons c l ih=>cases i with
  | zero=>simp [hf]
  | succ i=>simpa using ih i
theorem map_write (r:Rel φ h w) {b:Nat} {p:Pl} (hp:φ b=some p) {es es':List (AV × AV)} {h':H} (hm:h.map b=some es) (hh:h.put b (.map es')=some h') {ces ces':Array MapEntry} {clk clk':Nat}
  (ho:w.heap[p.b]? = some (.map ces clk)) (h1:L2 (EntRel φ) es' ces'.toList) (h2:∀ c∈ces'.toList,c.born < clk') (h3:(ces'.toList.map (·.born)).Nodup):
  (setObj p.b (.map ces' clk')).run P w=.ok () { w with heap:=w.heap.setIfInBounds p.b (.map ces' clk') }∧Rel φ h' { w with heap:=w.heap.setIfInBounds p.b (.map ces' clk') }∧Stp φ h w φ h' { w with heap:=w.heap.setIfInBounds p.b (.map ces' clk') }:=by
 refine ⟨run_setObj ho (by simp),?_⟩;exact r.write hp (map_alive hm) hh (by simp) ⟨rfl,rfl,rfl⟩ (fun k hk=>set_other hk) (.map (set_at ho) h1 h2 h3)
theorem isMapV_some {v:AV} {b:Nat} (h:isMapV v=some b):v=.map b:=by cases v <;> cases h;rfl
theorem valOk_relF {x:AV} {v:Value} (h:valOk x=true) (hr:RelT φ x v):RelF φ x v:=by
 refine relF_of hr ?_ ?_ ?_ <;> (intros;rintro rfl;cases h)
theorem upd_ok (r:Rel φ h w) {t:TypeId} (h1:(mapT P t).ok=true) {k x:AV} (h2:keyOk P (mapT P t).k k=true) (hv:valOk x=true) {kv xv:Value} (hk:RelT φ k kv) (hx:RelT φ x xv) {b:Nat} {p:Pl} (hp:φ b=some p)
  {es es':List (AV × AV)} {h':H} (hm:h.map b=some es) (hu:updM k x es=some es') (hh:h.put b (.map es')=some h'):
  ∃ w',(Instr.mapUpdate t (.map (some p.b)) kv xv).run P w=.ok () w'∧Rel φ h' w'∧Stp φ h w φ h' w':=by
 have hut:=und_of (mapT_some h1) (by simp);have hkf:=key_relF h2 hk;have hxf:=valOk_relF hv hx;obtain ⟨ces,clk,hobj,hrel,hborn,hnd⟩:=map_some r.rl hp hm;obtain ⟨o,hfi,hn,hs⟩:=upd_find hu;have hg:(getObj p.b).run P w=.ok (.map ces clk) w:=by simp [getObj,Sem.run,hobj]
 have hchk:=checkKey_ok h2 hkf false w;have hfind:=findKey_ok h2 hkf hrel hfi w;cases o with
 | none=>
  rw [hn rfl] at hh
  obtain ⟨g1,g2,g3⟩:=map_write (P:=P) r hp hm hh hobj (ces':=ces.push { key:=kv,val:=xv,born:=clk }) (clk':=clk+1) (by
    rw [Array.toList_push];exact hrel.append (.cons ⟨hkf,hxf⟩ .nil)) (by
    intro c hc;rw [Array.toList_push] at hc;rcases List.mem_append.1 hc with hc | hc
    ·exact Nat.lt_succ_of_lt (hborn c hc)
    ·simp at hc;subst hc;exact Nat.lt_succ_self _) (by
    rw [Array.toList_push,List.map_append,List.nodup_append];refine ⟨hnd,by simp,fun a ha c hc=>?_⟩;obtain ⟨d,hd,rfl⟩:=List.mem_map.1 ha;simp at hc;subst hc;exact Nat.ne_of_lt (hborn d hd))
  exact ⟨_,by simp [Instr.mapUpdate,run_underlying hut,hg,hchk,hfind,g1],g2,g3⟩
 | some i=>
  rw [hs i rfl] at hh;obtain ⟨⟨e,he1,he2⟩,_⟩:=hfi;obtain ⟨c,hc,hrc⟩:=hrel.get he1;rw [Array.getElem?_toList] at hc;obtain ⟨ek,es2⟩:=eqK_true he2 hkf hrc.key
  have hsame:Instr.sameBits 10000 c.key kv=true:=by
   have:=es2 9999;rw [<- ek] at this ⊢;exact this
  obtain ⟨g1,g2,g3⟩:=map_write (P:=P) r hp hm hh hobj (ces':=ces.modify i fun e=>{ e with key:=kv,val:=xv }) (clk':=clk) (by
    rw [Array.toList_modify];exact hrel.set fun c _=>⟨hkf,hxf⟩) (by
    intro d hd;have:d.born∈((ces.modify i fun e=>{ e with key:=kv,val:=xv }).toList).map (·.born):=List.mem_map.2 ⟨d,hd,rfl⟩;rw [Array.toList_modify,modify_born _ _ (fun e=>{ e with key:=kv,val:=xv }) (fun _=>rfl)] at this;obtain ⟨f,hf,e⟩:=List.mem_map.1 this;rw [<- e];exact hborn f hf) (by
    rw [Array.toList_modify,modify_born _ _ (fun e=>{ e with key:=kv,val:=xv }) (fun _=>rfl)];exact hnd)
  exact ⟨_,by simp [Instr.mapUpdate,run_underlying hut,hg,hchk,hfind,hc,Instr.keyThatStays,hsame,g1],g2,g3⟩
theorem ok_upd {o:Oper} {t:TypeId} {m k x:Operand} (ho:o.op=.mapUpdate t m k x∨o.op=.insert t m k x):∀ f,oUpd P t (opd m) (opd k) (opd x)=.ge f->GeOk P o f:=fun f hf=>by
 cases hf;intro call φ tm ρ h w K he hr hk;obtain ⟨h1,hk⟩:=iteB_all hk;obtain ⟨h1,h2⟩:=andB_iff.1 h1;obtain ⟨h2,h3⟩:=andB_iff.1 h2;obtain ⟨b,e1,hk⟩:=ob_all hk;obtain ⟨es,e2,hk⟩:=ob_all hk;obtain ⟨es',e3,hk⟩:=ob_all hk;obtain ⟨h',e4,hk⟩:=ob_all hk;have hm:=he m (by rcases ho with ho | ho <;> rw [ho] <;> simp [Op.operands]);have hkk:=he k (by rcases ho with ho | ho <;> rw [ho] <;> simp [Op.operands]);have hx:=he x (by rcases ho with ho | ho <;> rw [ho] <;> simp [Op.operands]);rw [isMapV_some e1] at hm;obtain ⟨p,hp,em⟩:=relT_map hm;obtain ⟨w',g1,g2,g3⟩:=upd_ok (P:=P) hr h1 h2 h3 hkk hx hp e2 e3 e4;exact ⟨.bad,h',φ,w',.skip,undef,hk,by rcases ho with ho | ho <;> simp [execOp,ho,em,g1],.inr ⟨rfl,rfl⟩,relT_undef,g2,g3⟩
end
end Go.Proofs.YtcilaocknhphnaaGreat.Ev
