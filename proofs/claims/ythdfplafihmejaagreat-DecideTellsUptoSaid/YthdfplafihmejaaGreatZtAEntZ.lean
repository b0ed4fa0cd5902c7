/-
  UPlainZ: what else. TreeZ: what else. CMap: what else. URun: what else. URunZ: what else. QAt: what else. QCutP: what else. QChkP: what else. QReach: what else. QChkP: what else. QRRef: what else. The reference's Check of proofs. AEnt: what else.
-/
import Derived.Test.YthdfplafihmejaaGreatZtDRun
import Derived.Test.YthdfplafihmejaaGreatZtUPlainY
import Derived.Test.YthdfplafihmejaaGreatZtBaseZ
import Derived.Test.YthdfplafihmejaaGreatZtCMap
import Derived.Test.YthdfplafihmejaaGreatZtURun
import Derived.Test.YthdfplafihmejaaGreatZtUPlain
import Derived.Test.YthdfplafihmejaaGreatZtVPlain2
import Derived.Test.YthdfplafihmejaaGreatZtQReach
import Derived.Test.YthdfplafihmejaaGreatZtRRefAZ
import Derived.Test.YthdfplafihmejaaGreatZtVShort
import Derived.Test.YthdfplafihmejaaGreatZtCLike
import Derived.Test.YthdfplafihmejaaGreatZtDCheckZ
import Derived.Test.YthdfplafihmejaaGreatZtAEnt
namespace Go.Proofs.YthdfplafihmejaaGreat
open Go.RowKit
section
variable {P:Program} {ops:Array Oper} {Q:Exit->Act->World->Prop} {S:World->Prop} {L:Nat}
theorem zae {w:World} {A:Act}:∀ (l:List Oper) (a:Act),wpStill P ops w (·=A) l a->A.tmps.size=a.tmps.size
  | [],a,h=>by have:a=A:=h;rw [this]
  | o :: l,a,h=>by
    unfold wpStill at h;split at h
    · unfold Oper.still at h
      generalize (execOp a.eval o).run P w=res at h;cases res with
      | halt x w'=>cases x <;> simp [Oper.stillUpon] at h
      | ok n w'=>
        cases n with
        | value v=>have:=zae l _ h.2;rwa [ZG] at this
        | skip=>have:=zae l _ h.2;rwa [ZG] at this
        | enter f args=>obtain ⟨_,v,_,hv⟩:=h;have:=zae l _ hv;rwa [ZG] at this
        | _=>simp [Oper.stillUpon] at h
    · have:=zae l _ h;rwa [ZG] at this
theorem zb7 {N:Nat} (hsel:Region.noSelect ops=true):∀ (pl:PT) (listed:Array Bool) (a:Act) (w:World),N<=a.tmps.size->(S w∨pl=.nil)->pl.okB ops N L listed=true ->
      XC P ops S L Q pl a w->zaP P .any ops (NoPanic Q) S L pl.len listed a w
  | .nil,listed,a,w,_,_,hb,h=>by
    simp only [PT.okB,List.isEmpty_iff] at hb;exact zdN (Q:=NoPanic Q) hb h _
  | .rd is n,listed,a,w,hN,hS,hb,h=>by
    have hS:S w:=hS.resolve_right (by simp);simp only [PT.okB,zrl] at hb;obtain ⟨A,h1,h2⟩:=h;have hA:A.tmps.size=a.tmps.size:=zae _ _ (h1 w hS (·=A) rfl);have:=zb7 hsel n _ A w (by omega) (.inl hS) hb.2 h2;have:=zbO (N:=N) hsel hS is listed a hN hb.1.1.1 hb.1.1.2 hb.1.2 (fun w' hS'=>h1 w' hS' (·=A) rfl) this;rw [show (PT.rd is n).len=n.len+is.length from Nat.add_comm _ _];exact this
  | .ef i n,listed,a,w,hN,_,hb,h=>by
    simp only [PT.okB,zrl,decide_eq_true_eq,beq_iff_eq,Bool.or_eq_true,Bool.not_eq_true',zq9] at hb;rw [show (PT.ef i n).len=n.len+1 from Nat.add_comm _ _];refine zcG hb.1.1.1 (by simp) (fun j hj=>?_);simp at hj;subst hj;refine wpOp_mono (fun a' w' ⟨hs,hS',hp⟩=>⟨hS',zb7 hsel n _ a' w' (by omega) ?_ hb.2 hp⟩) (zaN h);rcases hS' with e | e
    · refine .inr ?_
      rcases hb.1.2 with q | q
      · exact absurd e q
      · revert q;cases n <;> simp
    · exact .inl e
  | .two i j x y,listed,a,w,hN,_,hb,h=>by
    simp only [PT.okB,zrl,decide_eq_true_eq,beq_iff_eq] at hb;obtain ⟨⟨⟨⟨⟨⟨⟨b1,b2⟩,b3⟩,b4⟩,b5⟩,b6⟩,b7⟩,b8⟩:=hb;rw [show (PT.two i j x y).len=x.len+1 from Nat.add_comm _ _];refine zcG b1 (by simp) (fun k hk=>?_);simp at hk;rcases hk with rfl | rfl
    · exact wpOp_mono (fun a' w' ⟨hs,hS',hp⟩=>⟨.inr hS',zb7 hsel x _ a' w' (by omega) (.inl hS') b7 hp⟩) (zaN h.1)
    · rw [b6]
      exact wpOp_mono (fun a' w' ⟨hs,hS',hp⟩=>⟨.inr hS',zb7 hsel y _ a' w' (by omega) (.inl hS') b8 hp⟩) (zaN h.2)
theorem zeW {id N:Nat} {l:List Oper} {a:Act} {w:World} (pl:PT) (L:Nat) (S:World->Prop) (hm:P.follows .mixedOrders=true) (hsel:Region.noSelect l.toArray=true)
    (hlen:pl.len=l.toArray.size) (hb:pl.okB l.toArray N L (Array.replicate l.toArray.size false)=true) (hN:N<=a.tmps.size) (hS:S w.drew)
    (h:XC P l.toArray S L Q pl a w.drew):(Code.region id l.toArray true).wp P Q a w:=by
  refine wp_region_noPanic (wp_region_any hm (zcF (S:=S) (L:=L) _ _ _ _ ?_));have:=zb7 hsel pl _ a w.drew hN (.inl hS) hb h;rw [hlen] at this;exact this
theorem zh3 {i:Nat} {o:Oper} {K:Act->World->Prop} {a:Act} {w:World} (ho:ops[i]? = some o)
    (h:wpList P ops (zc8 Q K) [o] a w):wpOp P ops (NoPanic Q) i K a w:=by
  unfold wpOp;rw [ho];dsimp only;unfold wpList at h
  have hq:∀ e a w,e≠.normal->zc8 Q K e a w->NoPanic Q e a w:=by
    intro e a w he h;cases e <;> first | exact absurd rfl he | exact h | exact (h:False).elim
  split at h
  · rename_i hw
    rw [if_pos hw];refine h.imp (fun h=>?_) (fun ⟨h1,a,w,h2⟩=>⟨h1,a,w,h2⟩);exact Oper.wp_mono (fun a w h=>h) (zdM hq h)
  · rename_i hw
    rw [if_neg hw];exact h
theorem zaQ {i:Nat} {o:Oper} {n:PT} {a:Act} {w:World} (ho:ops[i]? = some o)
    (h:wpList P ops (zc8 Q (fun a' w'=>(i=L∨S w')∧XC P ops S L Q n a' w')) [o] a w):XC P ops S L Q (.ef i n) a w:=zh3 ho h
theorem zi3 {i j:Nat} {o p:Oper} {x y:PT} {a:Act} {w:World} (ho:ops[i]? = some o) (hp:ops[j]? = some p)
    (h:wpList P ops (zc8 Q (fun a' w'=>S w'∧XC P ops S L Q x a' w')) [o] a w) (h2:wpList P ops (zc8 Q (fun a' w'=>S w'∧XC P ops S L Q y a' w')) [p] a w):XC P ops S L Q (.two i j x y) a w:=⟨zh3 ho h,zh3 hp h2⟩
theorem zo2 {is:List Nat} {n:PT} {a A:Act} {w:World} (h:∀ w',S w'->∀ K:Act->Prop,K A->wpStill P ops w' K (zM ops is) a) (h2:XC P ops S L Q n A w):XC P ops S L Q (.rd is n) a w:=⟨A,h,h2⟩
theorem znq {a:Act} {w:World} (h:Q .normal a w):XC P ops S L Q .nil a w:=h
end
end Go.Proofs.YthdfplafihmejaaGreat



namespace Go.Proofs.YthdfplafihmejaaGreat
open Go.ChangeShapes Go.WideShapes Go.ChangeAt Go.RowKit
section
variable {W:World} {H:Type} {enc:TypeId × Value->H}
theorem zaT {t e:TypeId} {fuel:Nat} {cs:List Value} {x:DataW H × List MemPlace} (ht:Tryz.prog.underlying t=some (.slice e)) {sz:Nat} (hc:Tryz.prog.cellsOf e=sz) (hpos:0 < sz) {α:Type} [Inhabited α] {E:α->List Value->Prop}
  (hE:∀ n cs y,DataW.trod enc Tryz.prog W 0 (fun _=>true) true n e cs=some y->∃ a,E a cs) (h:DataW.trod enc Tryz.prog W 0 (fun _=>true) true fuel t cs=some x):
  ∃ (v:Value) (l:List α),cs=[v]∧(∀ n c,v=.slice none n c->n=0∧c=0)∧∃ la cap,v=.slice la l.length cap∧l.length<=maxLen∧∀ (j:Nat) a,l[j]? = some a->∃ lb lo cs',la=some ⟨lb,lo,none⟩∧lb < W.heap.size∧E a cs'∧∀ (q:Nat) u,q < sz->cs'[q]? = some u->W.cell? ⟨lb,lo+j*sz+q,none⟩=some u:=by
 rcases Deep.open_slice ht h with ⟨hcs,_⟩ | ⟨a,len,cap,m,k,D,Pl,hcs,_,hl,hm,hmm,hd,hel⟩
 ·exact ⟨_,[],hcs,(fun n c e=>by cases e;exact ⟨rfl,rfl⟩),none,0,rfl,by simp,fun j a hj=>by simp at hj⟩
 ·simp at hmm
  obtain rfl:cap=m:=hmm.symm;rw [hc] at hel
  have hv:∀ i,i < cap->∃ v:α × List Value,W.cells? 0 (a.add (i*sz)) sz=some v.2∧E v.1 v.2:=by
   intro i hi;obtain ⟨cs',h1,h2⟩:=hel i hi;obtain ⟨r,hr⟩:=hE _ _ _ h2;exact ⟨(r,cs'),h1,hr⟩
  obtain ⟨f,hf⟩:=Deep.choose_lt hv;refine ⟨_,(List.range len).map fun i=>(f i).1,hcs,(fun n c e=>by cases e),some a,cap,by simp,by simp;omega,fun j r hj=>?_⟩;rw [zrb] at hj
  have hjn:j < len:=by
   rcases Nat.lt_or_ge j len with h | h
   ·exact h
   ·rw [zrg (by simpa using h)] at hj;simp at hj
  rw [List.getElem?_range hjn] at hj;simp at hj;subst hj;obtain ⟨h1,h2⟩:=hf j (by omega);have g:=(World.cells?_some h1).2.2;have g0:=(World.cells?_some (hf 0 (by omega)).1).2.2 0 hpos;obtain ⟨b,off,spot⟩:=a
  have hs:spot=none:=by
   have hlen:=(World.cells?_some (hf 0 (by omega)).1).2.1;rw [zq0 (by omega)] at g0
   simpa [Addr.add] using World.cell?_spot g0
  subst hs;simp only [yN] at g g0;have hlen:=(World.cells?_some (hf 0 (by omega)).1).2.1;rw [zq0 (by omega)] at g0;exact ⟨b,off,_,rfl,World.block_lt_of_cell? W _ g0,h2,fun q u hq hu=>by rw [g q hq];exact hu⟩
set_option maxRecDepth 100000 in
theorem zlx {fuel:Nat} {cs:List Value} {x:DataW H × List MemPlace} (h:DataW.trod enc Tryz.prog W 0 (fun _=>true) true fuel 153 cs=some x):
  ∃ r:Int × Int,cs=[.int .i64 r.1,.int .i64 r.2]∧zcE r.1∧zcE r.2:=by
 obtain ⟨y0,y1,n,e,hl,t0,t1⟩:=zb6 Tryz.underlying153 h;rw [Tryz.cellsStep] at hl
 match cs,hl with
 | [c0,c1],_=>
  simp only [Tryz.cellsInt,List.drop_zero,List.drop_succ_cons,List.take_succ_cons,List.take_zero] at t0 t1;obtain ⟨s,e0,f0,hs⟩:=DataW.trod_int Tryz.underlying3 t0;obtain ⟨u,e1,f1,hu⟩:=DataW.trod_int Tryz.underlying3 t1;simp at e0 e1;subst e0 e1;exact ⟨(s,u),rfl,bounds_i64 hs,bounds_i64 hu⟩
theorem zdb {fuel:Nat} {cs:List Value} {x:DataW H × List MemPlace} (h:DataW.trod enc Tryz.prog W 0 (fun _=>true) true fuel 81 cs=some x):
  ∃ v l,cs=[v]∧Yq W v (· < W.heap.size) l∧xe l:=by
 obtain ⟨v,l,e,hn,la,cap,hv,hl,hc⟩:=zaT Tryz.underlying81 Tryz.cellsStep (by decide) (α:=Int × Int) (E:=fun r cs=>cs=[.int .i64 r.1,.int .i64 r.2]∧zcE r.1∧zcE r.2) (fun n cs y hy=>zlx hy) h;refine ⟨v,l,e,⟨⟨la,cap,hv,hl,fun j r hj=>?_⟩,hn⟩,fun r hr=>?_⟩
 ·obtain ⟨lb,lo,cs',e1,h1,⟨e2,_⟩,hq⟩:=hc j r hj
  subst e2;exact ⟨lb,lo,e1,h1,hq 0 _ (by decide) rfl,hq 1 _ (by decide) rfl⟩
 ·obtain ⟨j,hj⟩:=List.mem_iff_getElem?.1 hr
  obtain ⟨_,_,_,_,_,⟨_,q⟩,_⟩:=hc j r hj;exact q
theorem zg7 {fuel:Nat} {cs:List Value} {x:DataW H × List MemPlace} (h:DataW.trod enc Tryz.prog W 0 (fun _=>true) true fuel 96 cs=some x):
  ∃ v P,cs=[v]∧yO W v (· < W.heap.size) P∧∀ l∈P,xe l:=by
 obtain ⟨v,P,e,hn,la,cap,hv,hl,hc⟩:=zaT Tryz.underlying96 Tryz.cellsSteps (by decide) (α:=zE) (E:=fun l cs=>∃ v,cs=[v]∧Yq W v (· < W.heap.size) l∧xe l) (fun n cs y hy=>by
  obtain ⟨v,l,q⟩:=zdb hy;exact ⟨l,v,q⟩) h
 refine ⟨v,P,e,⟨la,cap,hv,hl,fun j r hj=>?_⟩,fun r hr=>?_⟩
 ·obtain ⟨lb,lo,cs',e1,h1,⟨sv,e2,q2,_⟩,hq⟩:=hc j r hj
  subst e2;have:=hq 0 _ (by decide) rfl;rw [Nat.mul_one,Nat.add_zero] at this;exact ⟨lb,lo,sv,e1,h1,this,q2⟩
 ·obtain ⟨j,hj⟩:=List.mem_iff_getElem?.1 hr
  obtain ⟨_,_,_,_,_,⟨_,_,_,q⟩,_⟩:=hc j r hj;exact q
set_option maxRecDepth 100000 in
theorem zpv {fuel:Nat} {cs:List Value} {x:DataW H × List MemPlace} (h:DataW.trod enc Tryz.prog W 0 (fun _=>true) true fuel 98 cs=some x):
  ∃ (y:zP) (pv:Value),cs=[.int .i64 y.cert,pv]∧yO W pv (· < W.heap.size) y.paths∧zcE y.cert∧∀ l∈y.paths,xe l:=by
 obtain ⟨y0,y1,n,e,hl,t0,t1⟩:=zb6 Tryz.underlying98 h;rw [Tryz.cellsItem] at hl
 match cs,hl with
 | [c0,c1],_=>
  simp only [Tryz.cellsInt,Tryz.cellsPaths,List.drop_zero,List.drop_succ_cons,List.take_succ_cons,List.take_zero] at t0 t1;obtain ⟨s,e0,f0,hs⟩:=DataW.trod_int Tryz.underlying3 t0;obtain ⟨pv,P,e1,hp,hf⟩:=zg7 t1;simp at e0 e1;subst e0 e1;exact ⟨⟨s,P⟩,_,rfl,hp,bounds_i64 hs,hf⟩
theorem zhj {fuel:Nat} {cs:List Value} {x:DataW H × List MemPlace} (h:DataW.trod enc Tryz.prog W 0 (fun _=>true) true fuel 80 cs=some x):
  ∃ v I,cs=[v]∧xg W v (· < W.heap.size) I∧∀ y∈I,zcE y.cert∧∀ l∈y.paths,xe l:=by
 obtain ⟨v,I,e,hn,la,cap,hv,hl,hc⟩:=zaT Tryz.underlying80 Tryz.cellsItem (by decide) (α:=zP) (E:=fun y cs=>∃ pv,cs=[.int .i64 y.cert,pv]∧yO W pv (· < W.heap.size) y.paths∧zcE y.cert∧∀ l∈y.paths,xe l) (fun n cs z hz=>zpv hz) h;refine ⟨v,I,e,⟨la,cap,hv,hl,fun j r hj=>?_⟩,fun r hr=>?_⟩
 ·obtain ⟨lb,lo,cs',e1,h1,⟨pv,e2,q2,_⟩,hq⟩:=hc j r hj
  subst e2;exact ⟨lb,lo,pv,e1,h1,hq 0 _ (by decide) rfl,hq 1 _ (by decide) rfl,q2⟩
 ·obtain ⟨j,hj⟩:=List.mem_iff_getElem?.1 hr
  obtain ⟨_,_,_,_,_,⟨_,_,_,q⟩,_⟩:=hc j r hj;exact q
set_option maxRecDepth 100000 in
theorem znI {fuel:Nat} {cs:List Value} {x:DataW H × List MemPlace} (h:DataW.trod enc Tryz.prog W 0 (fun _=>true) true fuel 83 cs=some x):
  ∃ (iv sv:Value) (p:zL),cs=[iv,sv]∧Zz W iv sv (· < W.heap.size) p∧xz p:=by
 obtain ⟨y0,y1,n,e,hl,t0,t1⟩:=zb6 Tryz.underlying83 h;rw [Tryz.cellsProof] at hl
 match cs,hl with
 | [c0,c1],_=>
  simp only [Tryz.cellsItems,Tryz.cellsSteps,List.drop_zero,List.drop_succ_cons,List.take_succ_cons,List.take_zero] at t0 t1;obtain ⟨iv,I,e0,hi,hf⟩:=zhj t0;obtain ⟨sv,l,e1,hs,hg⟩:=zdb t1;simp at e0 e1;subst e0 e1;exact ⟨_,_,⟨I,l⟩,rfl,⟨hi,hs⟩,⟨hf,hg⟩⟩
end
open Go.Maps
theorem zhx {C:List zq} {I:List zP} {q i:Nat} (hi:i<=I.length) (h1:tot C I i<=q) (h2:∀ j,i < j->j<=I.length->q < tot C I j):(zN C I).countP (fun b=>decide (b<=q))=i+1:=by
 have e:zN C I=yM C I (i+1)++(List.range' (i+1) (I.length - i)).map (tot C I):=by
  unfold zN yM;rw [<- List.map_append,List.range_eq_range',List.range_eq_range']
  congr 1
  have:=@List.range'_append_1 0 (i+1) (I.length - i);rw [Nat.zero_add] at this;rw [this]
  congr 1
  omega
 rw [e,List.countP_append]
 have z:((List.range' (i+1) (I.length - i)).map (tot C I)).countP (fun b=>decide (b<=q))=0:=by
  rw [List.countP_eq_zero];intro b hb;obtain ⟨j,hj,rfl⟩:=List.mem_map.1 hb;have hj2:=List.mem_range'_1.1 hj;have:=h2 j (by omega) (by omega);simp;omega
 have y:(yM C I (i+1)).countP (fun b=>decide (b<=q))=(yM C I (i+1)).length:=by
  rw [List.countP_eq_length];intro b hb;obtain ⟨j,hj,rfl⟩:=List.mem_map.1 hb;rw [List.mem_range] at hj;have:=zbg C I (show j<=i by omega);simp;omega
 rw [z,y,YY]
theorem zoF {roots:Int} {C:List zq} {I:List zP} {r:Int} {i:Nat} (hi:i < I.length) (h1:roots+tot C I i<=r) (h2:r < roots+tot C I (i+1)):Xq roots (zN C I) r=some i:=by
 unfold Xq
 rw [if_neg (by omega),zhx (i:=i) (by omega) (by omega) (fun j hj _=>by
  have:=zbg C I (show i+1<=j by omega);omega)]
 rfl
theorem zi5 {C:List zq} {I:List zP} {q:Nat}:∀ {k:Nat},q < tot C I k->∃ i,i < k∧tot C I i<=q∧q < tot C I (i+1)
 | 0,h=>by rw [zb8] at h;omega
 | k+1,h=>by
  by_cases hk:q < tot C I k
  ·obtain ⟨i,h1,h2,h3⟩:=zi5 hk
   exact ⟨i,by omega,h2,h3⟩
  ·exact ⟨k,by omega,by omega,h⟩
theorem zgc {roots:Int} {C:List zq} {I:List zP} {r:Int} {i k:Nat} (hk:k<=I.length) (hr:r < roots+tot C I k) (h:Xq roots (zN C I) r=some i):i < k∧roots+tot C I i<=r∧r < roots+tot C I (i+1):=by
 by_cases h0:r < roots
 ·unfold Xq at h
  rw [if_pos h0] at h;cases h
 obtain ⟨j,h1,h2,h3⟩:=zi5 (C:=C) (I:=I) (q:=(r - roots).toNat) (k:=k) (by omega);have e:=zoF (roots:=roots) (C:=C) (I:=I) (r:=r) (i:=j) (by omega) (by omega) (by omega);rw [e] at h;cases h;exact ⟨h1,by omega,by omega⟩
theorem zkv {roots:Int} {B:List Nat} {r:Int}:Xq roots B r=none↔r < roots:=by
 unfold Xq;split
 ·rename_i h;exact ⟨fun _=>h,fun _=>rfl⟩
 ·rename_i h;exact ⟨fun e=>(by cases e),fun e=>absurd e h⟩
theorem zgk (l:List Bool) (k i:Nat):(l.set k true).getD i false=true↔l.getD i false=true∨(i < l.length∧k=i):=by
 rw [zq6,zq6,List.getElem?_set];by_cases hk:k=i
 ·subst hk
  rw [if_pos rfl];by_cases hl:k < l.length
  ·rw [if_pos hl];simp [hl]
  ·rw [if_neg hl,zrg (by omega)];simp [hl]
 ·rw [if_neg hk];simp [hk]
theorem zmc (roots:Int) (B:List Nat) (need:List Bool) (s:Int × Int) (i:Nat):(zge roots B need s).getD i false=true↔need.getD i false=true∨(i < need.length∧Xq roots B s.2=some i):=by
 unfold zge;cases h:Xq roots B s.2 with
 | none=>simp
 | some k=>simp only;rw [zgk];simp
theorem zhg (roots:Int) (B:List Nat) (l:zE) (i:Nat):∀ need:List Bool,(za3 roots B need l).getD i false=true↔need.getD i false=true∨(i < need.length∧zfU roots B l i):=by
 unfold za3;induction l with
 | nil=>intro need;simp [zfU]
 | cons s l ih=>
  intro need;rw [List.foldl_cons,ih,zmc,zdh];unfold zfU;constructor
  ·rintro ((h | ⟨h1,h2⟩) | ⟨h1,t,h2,h3⟩)
   ·exact .inl h
   ·exact .inr ⟨h1,s,List.mem_cons_self,h2⟩
   ·exact .inr ⟨h1,t,List.mem_cons_of_mem _ h2,h3⟩
  ·rintro (h | ⟨h1,t,h2,h3⟩)
   ·exact .inl (.inl h)
   ·rcases List.mem_cons.1 h2 with rfl | h2
    ·exact .inl (.inr ⟨h1,h3⟩)
    ·exact .inr ⟨h1,t,h2,h3⟩
theorem zmd (roots:Int) (B:List Nat) (ps:List zE) (i:Nat):∀ need:List Bool,(zds roots B need ps).getD i false=true↔need.getD i false=true∨(i < need.length∧∃ l∈ps,zfU roots B l i):=by
 unfold zds;induction ps with
 | nil=>intro need;simp
 | cons s l ih=>
  intro need;rw [List.foldl_cons,ih,zhg,YD];constructor
  ·rintro ((h | ⟨h1,h2⟩) | ⟨h1,t,h2,h3⟩)
   ·exact .inl h
   ·exact .inr ⟨h1,s,List.mem_cons_self,h2⟩
   ·exact .inr ⟨h1,t,List.mem_cons_of_mem _ h2,h3⟩
  ·rintro (h | ⟨h1,t,h2,h3⟩)
   ·exact .inl (.inl h)
   ·rcases List.mem_cons.1 h2 with rfl | h2
    ·exact .inl (.inr ⟨h1,h3⟩)
    ·exact .inr ⟨h1,t,h2,h3⟩
theorem zhA (roots:Int) (B:List Nat) (I:List zP) (need:List Bool) (k i:Nat):(zc5 roots B I need k).getD i false=true↔need.getD i false=true∨(need.getD k false=true∧i < need.length∧∃ x,I[k]? = some x∧zln roots B x i):=by
 unfold zc5;rw [show need.getD k false=need[k]?.getD false from zq6];cases h:need[k]? with
 | none=>simp
 | some b=>
  cases b with
  | false=>simp
  | true=>
   simp only [Option.getD_some,true_and];cases hx:I[k]? with
   | none=>simp
   | some x=>
    simp only;rw [zmd];unfold zln;constructor
    ·rintro (h | ⟨h1,h2⟩)
     ·exact .inl h
     ·exact .inr ⟨h1,x,rfl,h2⟩
    ·rintro (h | ⟨h1,y,h2,h3⟩)
     ·exact .inl h
     ·cases h2;exact .inr ⟨h1,h3⟩
theorem zdn {a b:Bool} (h:a=true↔b=true):a=b:=by cases a <;> cases b <;> simp_all
theorem zfK {roots:Int} {B:List Nat} {I:List zP} (hA:zqt roots B I):∀ (k:Nat) (need:List Bool),(∀ j,k<=j+1->(YG roots B I k need).getD j false=need.getD j false) ∧
  ∀ i,(YG roots B I k need).getD i false=true↔need.getD i false=true∨∃ j x,j < k∧I[j]? = some x∧(YG roots B I k need).getD j false=true∧i < need.length∧zln roots B x i
 | 0,need=>⟨fun _ _=>rfl,fun i=>⟨.inl,fun h=>by
   rcases h with h | ⟨j,x,h,_⟩
   ·exact h
   ·omega⟩⟩
 | k+1,need=>by
  have e:YG roots B I (k+1) need=YG roots B I k (zc5 roots B I need k):=rfl;rw [e];obtain ⟨h1,h2⟩:=zfK hA k (zc5 roots B I need k)
  have same:∀ j,k<=j->(zc5 roots B I need k).getD j false=need.getD j false:=fun j hj=>zdn (by
   rw [zhA];constructor
   ·rintro (h | ⟨_,_,x,hx,hu⟩)
    ·exact h
    ·have:=hA k x j hx hu
     omega
   ·exact .inl)
  refine ⟨fun j hj=>by rw [h1 j (by omega),same j (by omega)],fun i=>?_⟩;have hk:(YG roots B I k (zc5 roots B I need k)).getD k false=need.getD k false:=by rw [h1 k (by omega),same k (zrj _)]
  rw [h2 i,zhA,zdo];constructor
  ·rintro ((h | ⟨h3,h4,x,h5,h6⟩) | ⟨j,x,h3,h4,h5,h6,h7⟩)
   ·exact .inl h
   ·exact .inr ⟨k,x,by omega,h5,by rw [hk];exact h3,h4,h6⟩
   ·exact .inr ⟨j,x,by omega,h4,h5,h6,h7⟩
  ·rintro (h | ⟨j,x,h3,h4,h5,h6,h7⟩)
   ·exact .inl (.inl h)
   ·by_cases hj:j=k
    ·subst hj
     exact .inl (.inr ⟨by rw [<- hk];exact h5,h6,x,h4,h7⟩)
    ·exact .inr ⟨j,x,by omega,h4,h5,h6,h7⟩
section
variable {roots:Int} {C:List zq} {p:zL}
theorem yF.stands (h:yF roots C p) {k:Nat} {x:zP} (hx:p.items[k]? = some x) {l:zE} (hl:l∈x.paths) {s:Int × Int} (hs:s∈l):0<=s.2∧s.2 < roots+tot C p.items k:=by
 have h1:=h.item k x hx;unfold zes at h1;simp only [zrl,zrh] at h1;have h2:=h1.2.2 l hl;unfold yP at h2;have h3:=zrh.1 h2 s hs;unfold xO at h3
 simpa using h3
theorem yF.lasts (h:yF roots C p) {s:Int × Int} (hs:s∈p.steps):0<=s.2∧s.2 < roots+tot C p.items p.items.length:=by
 have h2:=h.last;unfold yP at h2;have h3:=zrh.1 h2 s hs;unfold xO at h3
 simpa using h3
theorem yF.cert (h:yF roots C p) {k:Nat} {x:zP} (hx:p.items[k]? = some x):0<=x.cert∧x.cert < C.length:=by
 have h1:=h.item k x hx;unfold zes at h1;simp only [zrl,decide_eq_true_eq] at h1;exact ⟨h1.1,h1.2.1⟩
theorem yF.ahead (h:yF roots C p):zqt roots (zN C p.items) p.items:=fun k x i hx hu=>by
 obtain ⟨l,hl,s,hs,ho⟩:=hu;exact (zgc (Nat.le_of_lt (zq1.1 hx).1) (h.stands hx hl hs).2 ho).1
theorem yF.usesL_lt (h:yF roots C p) {i:Nat} (hu:zfU roots (zN C p.items) p.steps i):i < p.items.length:=by
 obtain ⟨s,hs,ho⟩:=hu;exact (zgc (zrj _) (h.lasts hs).2 ho).1
theorem znN (h:yF roots C p) (i:Nat):(xh roots (zN C p.items) p).getD i false=true↔zfU roots (zN C p.items) p.steps i∨∃ k x,p.items[k]? = some x∧(xh roots (zN C p.items) p).getD k false=true∧zln roots (zN C p.items) x i:=by
 have h1:=(zfK h.ahead p.items.length (za3 roots (zN C p.items) (List.replicate p.items.length false) p.steps)).2 i;unfold xh;rw [h1,zhg,YD,List.length_replicate]
 have hrep:(List.replicate p.items.length false).getD i false=false:=by
  rw [zq6,List.getElem?_replicate];split <;> rfl
 rw [hrep];constructor
 ·rintro ((h2 | ⟨_,h2⟩) | ⟨j,x,_,h3,h4,_,h5⟩)
  ·cases h2
  ·exact .inl h2
  ·exact .inr ⟨j,x,h3,h4,h5⟩
 ·rintro (h2 | ⟨j,x,h3,h4,h5⟩)
  ·exact .inl (.inr ⟨h.usesL_lt h2,h2⟩)
  ·have hj:=(zq1.1 h3).1
   exact .inr ⟨j,x,hj,h3,h4,by have:=h.ahead j x i h3 h5;omega,h5⟩
end
section
variable {roots:Int} {C:List zq} {p:zL}
theorem zmL (roots:Int) (C:List zq) (p:zL):(zgE roots C p).items=za5 roots (zN C p.items) (YU C p.items (xh roots (zN C p.items) p)) (xh roots (zN C p.items) p) p.items p.items.length:=rfl
end
theorem zbW {C:List zq}:∀ {I:List zP} {R:List zF} {seen:List Nat},(YF C R seen I).1=0↔∀ (k:Nat) x,I[k]? = some x->zck (R++yD C I k) C (seen++XZ I k) x=0
 | [],R,seen=>⟨fun _ k x h=>by simp at h,fun _=>rfl⟩
 | y :: I,R,seen=>by
  unfold YF;have e1:∀ k,yD C (y :: I) (k+1)=zaK C y++yD C I k:=fun k=>by unfold yD;rw [List.take_succ_cons,List.flatMap_cons]
  have e2:∀ k,XZ (y :: I) (k+1)=y.cert.toNat :: XZ I k:=fun k=>by unfold XZ;rw [List.take_succ_cons,List.map_cons]
  by_cases h:zck R C seen y=0
  ·rw [if_pos h,zbW]
   constructor
   ·intro q k x hx
    cases k with
    | zero=>
     rw [zqX] at hx;cases hx
     simpa [yD,XZ] using h
    | succ k=>
     rw [zqW] at hx;have:=q k x hx;rw [e1,e2];rwa [List.append_assoc,List.append_assoc] at this
   ·intro q k x hx
    have:=q (k+1) x (by rw [zqW];exact hx);rw [e1,e2] at this;rw [List.append_assoc,List.append_assoc];exact this
  ·rw [if_neg h]
   exact ⟨fun e=>absurd e h,fun q=>absurd (by simpa [yD,XZ] using q 0 y rfl) h⟩
theorem zdl {C:List zq}:∀ {I:List zP} {R:List zF} {seen:List Nat},(YF C R seen I).1=0->(YF C R seen I).2=R++yD C I I.length
 | [],R,seen,_=>by unfold YF yD;simp
 | y :: I,R,seen,h=>by
  unfold YF at h ⊢;by_cases h1:zck R C seen y=0
  ·rw [if_pos h1] at h ⊢
   rw [zdl h];unfold yD;rw [List.length_cons,List.take_succ_cons,List.flatMap_cons,List.append_assoc]
  ·rw [if_neg h1] at h
   exact absurd h h1
theorem zc4 {R:List zF} {C:List zq} {p:zL} {x u:ByteArray}:yZ R C p x u=0↔zeQ R C p x u:=by
 unfold yZ;by_cases h:(YF C R [] p.items).1=0
 ·rw [if_pos h,zdl h]
  have h2:=zbW.1 h;by_cases hl:yV (R++yD C p.items p.items.length) x u p.steps=true
  ·rw [if_pos hl]
   exact ⟨fun _=>⟨fun k y hy=>by simpa using h2 k y hy,hl⟩,fun _=>rfl⟩
  ·rw [if_neg hl]
   exact ⟨fun e=>(by cases e),fun q=>absurd q.last hl⟩
 ·rw [if_neg h]
  exact ⟨fun e=>absurd e h,fun q=>absurd (zbW.2 fun k y hy=>by simpa using q.items k y hy) h⟩
theorem zpD (roots:Int) (C:List zq) (p:zL):(zgE roots C p).items.length<=p.items.length:=by rw [zmL];exact zay _ _ _ _ _ _
section
variable {R:List zF} {C:List zq} {b:Int} {s:ASt} {x u:ByteArray}
theorem zfd {Q:List Rul}:∀ {l:zE} {w v:Wd},Xj Q w l=some v->Reach Q w v
 | [],w,v,h=>by cases h;exact .refl
 | y :: t,w,v,h=>by
  unfold Xj at h;cases hx:Ym Q w y with
  | none=>rw [hx] at h;cases h
  | some z=>
   rw [hx] at h;refine Reach.trans (.tail .refl ?_) (zfd h);unfold Ym at hx;split at hx
   ·rename_i q
    cases hx;refine ⟨(y.1.toNat,y.2.toNat),List.mem_map.2 ⟨(y.1.toNat,y.2.toNat),?_,rfl⟩⟩
    have e1:((y.1.toNat:Int),(y.2.toNat:Int))=y:=by
     rw [Int.toNat_of_nonneg q.2.2.2.1,Int.toNat_of_nonneg q.1]
    exact zaS.1 (by rw [e1];exact q)
   ·cases hx
theorem zfx {Q S:List zF} {f t:ByteArray} {l:zE} (h:yV Q f t l=true) (hsub:∀ r∈Q,r∈S) (he:zH S f b=0):Xk S f t b=true:=by
 obtain ⟨_,y,hy,rfl⟩:=zci.1 h;refine (zgN he).2 ?_;have e:(bar y).data.toList=y:=by unfold bar;simp
 rw [e]
 exact (zfd hy).mono fun z hz=>by
  obtain ⟨r,hr,rfl⟩:=List.mem_map.1 hz;exact List.mem_map_of_mem (hsub r hr)
theorem zig {p:zL} (hacc:Zc R C b=.ok s) (h:zeQ R C p x u):(∀ y∈p.items,y.cert.toNat∈s.order)∧(zH s.rules x b=0->Xk s.rules x u b=true):=by
 have F:=(YH hacc).1
 have sub:∀ k,k<=p.items.length->(∀ (j:Nat) y,j < k->p.items[j]? = some y->y.cert.toNat∈s.order)->∀ r∈R++yD C p.items k,r∈s.rules:=fun k _ hj r hr=>by
  rw [F.inv.rules];rcases zrc.1 hr with q | q
  ·exact List.mem_append_left _ q
  ·refine List.mem_append_right _ ?_
   unfold yD at q;obtain ⟨y,hy,hq⟩:=List.mem_flatMap.1 q;obtain ⟨j,hjy⟩:=List.mem_iff_getElem?.1 hy;rw [List.getElem?_take] at hjy;split at hjy
   ·rename_i hjk
    unfold zY;exact List.mem_flatMap.2 ⟨y.cert.toNat,hj j y hjk hjy,hq⟩
   ·cases hjy
 have key:∀ n,∀ (k:Nat) y,k < n->p.items[k]? = some y->y.cert.toNat∈s.order:=by
  intro n;induction n with
  | zero=>intro k y hk;omega
  | succ n ih=>
   intro k y hk hy;obtain ⟨h1,h2,_,c,hc,_,h5,h6⟩:=zcX.1 (h.items k y hy);by_cases hn:y.cert.toNat∈s.order
   ·exact hn
   exfalso;obtain ⟨f,hf,e1,e2⟩:=zmU (F.full _ c hc hn);obtain ⟨j,hj⟩:=List.mem_iff_getElem?.1 hf;obtain ⟨l,hl⟩:∃ l,y.paths[j]? = some l:=⟨_,zq0 (by have:=(zq1.1 hj).1;omega)⟩;have hkl:=(zq1.1 hy).1;have:=zfx (zg8 h6 hj hl) (sub k (Nat.le_of_lt hkl) fun i z hi hz=>ih i z (by omega) hz) e1;rw [this] at e2;cases e2
 have all:∀ (k:Nat) y,p.items[k]? = some y->y.cert.toNat∈s.order:=fun k y hy=>key (k+1) k y (by omega) hy;refine ⟨fun y hy=>?_,fun he=>zfx h.last (sub _ (zrj _) fun j y _ hy=>all j y hy) he⟩;obtain ⟨k,hk⟩:=List.mem_iff_getElem?.1 hy;exact all k y hk
end
end Go.Proofs.YthdfplafihmejaaGreat



namespace Go.Proofs.YthdfplafihmejaaGreat
open Go.RowKit Go.Maps
structure zqR (w wr:World) (iv sv rv:Value) (R:List zF):Prop where
  box:wr.heap[w.heap.size]? = some (.cells #[iv,sv] 83 (0,0))
  row:wr.ownsRow (w.heap.size+1) 66 2 rv R.length (zD R)
  ch:Chg (fun _=>False) w wr
end Go.Proofs.YthdfplafihmejaaGreat
