/-
  What the arguments' readings say: one certificate. What the arguments' readings say: certificates. What the arguments' readings say: sets, entries. Append of a slice of another type; lists of the words of rules and certificates. Layer 17: large. Proofs that come in; proofs that are the same (the reference's Steps and Same).
-/
import Derived.Test.YthdfplafihmejaaGreatZtCLike
import Derived.Test.YthdfplafihmejaaGreatZtURun
import Derived.Test.YthdfplafihmejaaGreatZtAEnt
import Derived.Deep.DeepCutAuto
import Derived.Deep.CutBlock
import Derived.Test.YthdfplafihmejaaGreatZtUPlain
import Derived.Test.YthdfplafihmejaaGreatZtQNeed
import Derived.Test.YthdfplafihmejaaGreatZtVPlain2
namespace Go.Proofs.YthdfplafihmejaaGreat
open Go.ChangeShapes Go.WideShapes Go.ChangeAt Go.RowKit
theorem Tryz.cellsCert:Tryz.prog.cellsOf 64=7:=by kernel_rfl
section
variable {W:World} {H:Type} {enc:TypeId × Value->H}
theorem zcK {fuel:Nat} {cs:List Value} {x:DataW H × List MemPlace} (h:DataW.trod enc Tryz.prog W 0 (fun _=>true) true fuel 26 cs=some x):
  ∃ v l,cs=[v]∧xf W v (· < W.heap.size) l:=by
 rcases open_strings Tryz.underlying26 Tryz.underlying57 Tryz.cellsWord h with ⟨hcs,_⟩ | ⟨a,len,cap,ss,hcs,_,hl,hm,hz,_,hcell,hws⟩
 ·exact ⟨_,[],hcs,⟨none,0,rfl,by simp,fun j x hj=>by simp at hj⟩,fun n c e=>by cases e;exact ⟨rfl,rfl⟩⟩
 ·simp at hz
  have hl2:(ss.take len).length=len:=by simp;omega
  refine ⟨_,ss.take len,hcs,⟨some a,cap,by rw [hl2],by rw [hl2];omega,fun j s hj=>?_⟩,fun n c e=>by cases e⟩
  have hjn:j < len:=by
   have:=(zq1.1 hj).1;omega
  have h1:=hcell j (by omega);have h10:=hcell 0 (by omega);obtain ⟨b,off,spot⟩:=a;have hs:spot=none:=by simpa [Addr.add] using World.cell?_spot h10
  subst hs;rw [yN] at h1;refine ⟨b,off,rfl,World.block_lt_of_cell? W _ h1,?_,hws s (List.mem_of_mem_take (zq2 hj))⟩;rw [h1];rw [List.getElem?_take,if_pos hjn] at hj;rw [zq6,hj];rfl
set_option maxRecDepth 100000 in
theorem zpH {fuel:Nat} {cs:List Value} {x:DataW H × List MemPlace} (h:DataW.trod enc Tryz.prog W 0 (fun _=>true) true fuel 64 cs=some x):
  ∃ (c:zq) (sv:Value),cs=[.int .i64 c.kind,.int .u16 (c.sg:Int),.string c.sp,sv,.int .i64 c.f,.int .i64 c.t,.int .i64 c.n]∧YI W sv (· < W.heap.size) c:=by
 obtain ⟨xs,n,_,rfl,hl,hlen,hf⟩:=DataW.trod_struct Tryz.underlying64 h;rw [Tryz.cellsCert] at hl
 match cs,hl with
 | [c0,c1,c2,c3,c4,c5,c6],_=>
  match xs,hlen with
  | [y0,y1,y2,y3,y4,y5,y6],_=>
  have t0:DataW.trod enc Tryz.prog W 0 (fun _=>true) true n 3 [c0]=some y0:=hf 0 _ rfl;have t1:DataW.trod enc Tryz.prog W 0 (fun _=>true) true n 62 [c1]=some y1:=hf 1 _ rfl;have t2:DataW.trod enc Tryz.prog W 0 (fun _=>true) true n 57 [c2]=some y2:=hf 2 _ rfl;have t3:DataW.trod enc Tryz.prog W 0 (fun _=>true) true n 26 [c3]=some y3:=hf 3 _ rfl;have t4:DataW.trod enc Tryz.prog W 0 (fun _=>true) true n 2 [c4]=some y4:=hf 4 _ rfl;have t5:DataW.trod enc Tryz.prog W 0 (fun _=>true) true n 2 [c5]=some y5:=hf 5 _ rfl;have t6:DataW.trod enc Tryz.prog W 0 (fun _=>true) true n 2 [c6]=some y6:=hf 6 _ rfl;obtain ⟨k,e0,_,_⟩:=DataW.trod_int Tryz.underlying3 t0;obtain ⟨sg,e1,_,hsg⟩:=DataW.trod_int Tryz.underlying62 t1;obtain ⟨sp,e2,_,hsp⟩:=DataW.trod_string Tryz.underlying57 t2;obtain ⟨sv,l,e3,hs⟩:=zcK t3;obtain ⟨f,e4,_,_⟩:=DataW.trod_int Tryz.underlying2 t4;obtain ⟨u,e5,_,_⟩:=DataW.trod_int Tryz.underlying2 t5;obtain ⟨n,e6,_,_⟩:=DataW.trod_int Tryz.underlying2 t6;simp at e0 e1 e2 e3 e4 e5 e6;subst e0 e1 e2 e3 e4 e5 e6
  have hsg2:0<=sg∧sg<=65535:=by
   simp only [Lit.wf,zrl,decide_eq_true_eq] at hsg;exact hsg
  refine ⟨⟨k,sg.toNat,sp,l,f,u,n⟩,c3,?_,⟨hs,hsp,by simp only;omega⟩⟩;simp only;rw [show ((sg.toNat:Nat):Int)=sg from by omega]
end
theorem Tryz.bytesCert:Tryz.prog.bytesOf 64=80:=by kernel_rfl
def zdK (P:List (zq × Value)):Prop:=P.length*80<=140737488351232
structure zjP (w:World) (v:Value) (P:List (zq × Value)):Prop where
 at_:ym w v (· < w.heap.size) P
 nil:∀ n c,v=.slice none n c->n=0∧c=0
 fit:∀ a n c,v=.slice a n c->n<=c
theorem ziN {W:World} {H:Type} {enc:TypeId × Value->H} {a:Option Addr} {n c:Nat} {d:DataW H} {ps:List MemPlace}
  (h:DataW.Trod enc Tryz.prog W 0 (fun _=>true) true 23 (.slice a n c) d ps):∃ P,zjP W (.slice a n c) P∧((∀ x∈d.weights Tryz.prog 23,x<=reachBytes)->zdK P):=by
 obtain ⟨fuel,hf⟩:=h;have hf':DataW.trod enc Tryz.prog W 0 (fun _=>true) true fuel 23 [.slice a n c]=some (d,ps):=hf;rcases Deep.open_slice Tryz.underlying23 hf' with ⟨hcs,_⟩ | ⟨x,len,cap,m,k,D,Pl,hcs,_,hl,hm,hmm,hd,hel⟩
 ·simp at hcs
  obtain ⟨rfl,rfl,rfl⟩:=hcs;exact ⟨[],⟨⟨none,0,rfl,by simp,fun j x hj=>by simp at hj⟩,(fun n c e=>by cases e;exact ⟨rfl,rfl⟩),fun a n c e=>by cases e;exact zrj _⟩,fun _=>by unfold zdK;simp⟩
 ·simp at hcs
  obtain ⟨rfl,rfl,rfl⟩:=hcs;simp at hmm;obtain rfl:c=m:=hmm.symm;rw [Tryz.cellsCert] at hel
  have hv:∀ i,i < c->∃ v:zq × Value,W.cells? 0 (x.add (i*7)) 7=some [.int .i64 v.1.kind,.int .u16 (v.1.sg:Int),.string v.1.sp,v.2,.int .i64 v.1.f,.int .i64 v.1.t,.int .i64 v.1.n]∧YI W v.2 (· < W.heap.size) v.1:=by
   intro i hi;obtain ⟨cs,h1,h2⟩:=hel i hi;obtain ⟨v,sv,rfl,q⟩:=zpH h2;exact ⟨(v,sv),h1,q⟩
  have:Inhabited (zq × Value):=⟨(noC,undef)⟩;obtain ⟨f,hf2⟩:=Deep.choose_lt hv
  have key:∀ (j:Nat) y,((List.range n).map f)[j]? = some y->j < n∧y=f j:=fun j y hj=>by
   rw [zrb] at hj
   have hjn:j < n:=by
    rcases Nat.lt_or_ge j n with h | h
    ·exact h
    ·rw [zrg (by simpa using h)] at hj;simp at hj
   rw [List.getElem?_range hjn] at hj;simp at hj;exact ⟨hjn,hj.symm⟩
  refine ⟨(List.range n).map f,⟨⟨some x,c,by simp,by simp;omega,fun j y hj=>?_⟩,(fun n c e=>by cases e),fun a n' c' e=>by cases e;omega⟩,fun hw=>?_⟩
  ·obtain ⟨hjn,rfl⟩:=key j y hj
   obtain ⟨h1,h2⟩:=hf2 j (by omega);have g:=(World.cells?_some h1).2.2;have g0:=(World.cells?_some (hf2 0 (by omega)).1).2.2 0 (by decide);obtain ⟨b,off,spot⟩:=x;have hs:spot=none:=by simpa [Addr.add] using World.cell?_spot g0
   subst hs;simp only [yN] at g;have c0:=g 0 (by decide);have c1:=g 1 (by decide);have c2:=g 2 (by decide);have c3:=g 3 (by decide);have c4:=g 4 (by decide);have c5:=g 5 (by decide);have c6:=g 6 (by decide);obtain ⟨sa,sc,e3⟩:=h2.set.shape;have e4:W.cell? ⟨b,off+j*7+3,none⟩=some (f j).2:=c3;rw [e3] at e4 h2;exact ⟨b,off,sa,sc,rfl,World.block_lt_of_cell? W _ c0,e3,c0,c1,c2,e4,c4,c5,c6,h2⟩
  ·have hd2:d=.slice ((List.range n).map D) ((List.range (c - n)).map fun j=>D (n+j)):=congrArg Prod.fst hd
   subst hd2;simp only [DataW.weights,Tryz.underlying23,List.mem_cons,zrc] at hw;have hr:reachBytes=140737488351232:=rfl;have q1:=hw _ (.inl rfl);rw [Tryz.bytesCert] at q1;unfold zdK;simp only [zq4,List.length_range] at q1 ⊢;have:n*80<=(n+(c - n))*80:=Nat.mul_le_mul_right _ (by omega);omega
theorem Tryz.cellsEntry:Tryz.prog.cellsOf 56=2:=by kernel_rfl
theorem Tryz.cellsSet:Tryz.prog.cellsOf 26=1:=by kernel_rfl
section
variable {W:World} {H:Type} {enc:TypeId × Value->H}
theorem zlC {a:Option Addr} {m c:Nat} {d:DataW H} {ps:List MemPlace} (h:DataW.Trod enc Tryz.prog W 0 (fun _=>true) true 26 (.slice a m c) d ps):∃ l,xf W (.slice a m c) (· < W.heap.size) l:=by
 obtain ⟨fuel,hf⟩:=h;obtain ⟨u,l,e,hs⟩:=zcK (cs:=[.slice a m c]) hf;cases e;exact ⟨l,hs⟩
set_option maxRecDepth 100000 in
theorem zog {fuel:Nat} {cs:List Value} {x:DataW H × List MemPlace} (h:DataW.trod enc Tryz.prog W 0 (fun _=>true) true fuel 56 cs=some x):
  ∃ r:Za × Value,cs=[.int .i64 r.1.1,r.2]∧xf W r.2 (· < W.heap.size) r.1.2:=by
 obtain ⟨y0,y1,n,e,hl,t0,t1⟩:=zb6 Tryz.underlying56 h;rw [Tryz.cellsEntry] at hl
 match cs,hl with
 | [c0,c1],_=>
  simp only [Tryz.cellsInt,Tryz.cellsSet,List.drop_zero,List.drop_succ_cons,List.take_succ_cons,List.take_zero] at t0 t1;obtain ⟨s,e0,f0,hs⟩:=DataW.trod_int Tryz.underlying3 t0;obtain ⟨u,l,e1,hu⟩:=zcK t1;simp at e0 e1;subst e0 e1;exact ⟨((s,l),c1),rfl,hu⟩
theorem zkX {a:Option Addr} {n c:Nat} {d:DataW H} {ps:List MemPlace}
  (h:DataW.Trod enc Tryz.prog W 0 (fun _=>true) true 24 (.slice a n c) d ps):∃ L,ZI W (.slice a n c) (· < W.heap.size) L:=by
 obtain ⟨fuel,hf⟩:=h;have hf':DataW.trod enc Tryz.prog W 0 (fun _=>true) true fuel 24 [.slice a n c]=some (d,ps):=hf;rcases Deep.open_slice Tryz.underlying24 hf' with ⟨hcs,_⟩ | ⟨x,len,cap,m,k,D,Pl,hcs,_,hl,hm,hmm,hd,hel⟩
 ·simp at hcs
  obtain ⟨rfl,rfl,rfl⟩:=hcs;exact ⟨[],zc0 _ _⟩
 ·simp at hcs
  obtain ⟨rfl,rfl,rfl⟩:=hcs;simp at hmm;obtain rfl:c=m:=hmm.symm;rw [Tryz.cellsEntry] at hel
  have hv:∀ i,i < c->∃ v:Za × Value,W.cells? 0 (x.add (i*2)) 2=some [.int .i64 v.1.1,v.2]∧xf W v.2 (· < W.heap.size) v.1.2:=by
   intro i hi;obtain ⟨cs,h1,h2⟩:=hel i hi;obtain ⟨v,rfl,q⟩:=zog h2;exact ⟨v,h1,q⟩
  have:Inhabited (Za × Value):=⟨((0,[]),undef)⟩;obtain ⟨f,hf2⟩:=Deep.choose_lt hv
  have key:∀ {α:Type} (g:Nat->α) (j:Nat) y,((List.range n).map g)[j]? = some y->j < n∧y=g j:=fun g j y hj=>by
   rw [zrb] at hj
   have hjn:j < n:=by
    rcases Nat.lt_or_ge j n with h | h
    ·exact h
    ·rw [zrg (by simpa using h)] at hj;simp at hj
   rw [List.getElem?_range hjn] at hj;simp at hj;exact ⟨hjn,hj.symm⟩
  refine ⟨(List.range n).map fun i=>(f i).1,(List.range n).map fun i=>((f i).1.1,(f i).2),some x,c,by simp,by simpa using hl,hm,(fun e=>by cases e),⟨by simp,fun j e y h1 h2=>?_⟩,fun j u hj=>?_⟩
  ·obtain ⟨h3,rfl⟩:=key _ j e h1
   obtain ⟨_,rfl⟩:=key _ j y h2;exact ⟨rfl,(hf2 j (by omega)).2⟩
  ·obtain ⟨k,r,hk,hq⟩:=zmG hj
   obtain ⟨hkn,rfl⟩:=key _ k r hk;obtain ⟨h1,_⟩:=hf2 k (by omega);have g:=(World.cells?_some h1).2.2;have g0:=(World.cells?_some (hf2 0 (by omega)).1).2.2 0 (by decide);obtain ⟨b,off,spot⟩:=x;have hs:spot=none:=by simpa [Addr.add] using World.cell?_spot g0
   subst hs;simp only [yN] at g;have c0:=g 0 (by decide);have c1:=g 1 (by decide);refine ⟨b,off,rfl,World.block_lt_of_cell? W _ c0,?_⟩;rcases hq with ⟨rfl,rfl⟩ | ⟨rfl,rfl⟩
   ·exact c0
   ·rw [<- Nat.add_assoc];exact c1
end
open Go.Maps
theorem zdp {P:Program} {w:World} {t t2 ty e e2:TypeId} {args:Array Value} (ht:P.underlying t=some (.slice e)) (ht2:P.underlying t2=some (.slice e2)):(Builtin.append_ #[t,t2] ty args).run P w=(Builtin.append_ #[t,t] ty args).run P w:=by
 have e0:(#[t,t2]:Array TypeId)[0]? = some t:=rfl;have e1:(#[t,t2]:Array TypeId)[1]? = some t2:=rfl;have e2:(#[t,t]:Array TypeId)[0]? = some t:=rfl;have e3:(#[t,t]:Array TypeId)[1]? = some t:=rfl;unfold Builtin.append_;simp only [e0,e1,e2,e3];cases h0:args[0]? with
 | none=>rfl
 | some s=>
  cases h1:args[1]? with
  | none=>rfl
  | some x=>
   simp only [Sem.run_bind,run_underlying ht,Result.andThen_ok];cases s with
   | slice a n c=>
    simp only [Sem.run_bind,run_underlying ht,run_underlying ht2,Result.andThen_ok,Sem.run_pure]
   | _=>rfl
theorem zaO {P:Program} {w:World} {ops:Array Oper} {rest:List Oper} {o:Oper} {a:Act} {Q:Exit->Act->World->Prop} (hgd:o.guard=none) (s x:Operand) (t t2:TypeId)
  (ho:o.op=.call { callee:=.builtin .append,args:=#[s,x],argTypes:=#[t,t2] }) (e e2:TypeId) (size bytes:Nat) (ht:P.underlying t=some (.slice e)) (ht2:P.underlying t2=some (.slice e2)) (hE:Zt P e size bytes)
  (base:Nat) (v:Value) (n:Nat) (xs:List Value) (hs:a.eval s=v) (hown:w.ownsRow base e size v n xs)
  (xa:Option Addr) (m c:Nat) (news:List Value) (hx:a.eval x=.slice xa m c) (hl:news.length=m*size) (hc:∀ (j:Nat) u,news[j]? = some u->∃ g o,xa=some ⟨g,o,none⟩∧w.cell? ⟨g,o+j,none⟩=some u) (hnil:xa=none->m=0∧c=0)
  (h1:∀ u∈news,u.oneCell'=true) (hbytes:(n+m)*bytes<=140737488355328) (h63:n+m<=maxLen) (hbase:base<=w.heap.size)
  (h:∀ v' w',w'.ownsRow base e size v' (n+m) (xs++news)->w.grownBy w' v.ownBlock->wpList P ops Q rest (a.put o.dst v') w'):wpList P ops Q (o :: rest) a w:=by
 obtain ⟨i,z,hi,hz,q1,q2,q3,q4⟩:=hE;refine wpList_plain hgd fun K hK=>?_;cases xa with
 | none=>
  obtain ⟨rfl,rfl⟩:=hnil rfl;have:news=[]:=List.eq_nil_of_length_eq_zero (by rw [hl];omega);subst this;have hrun:=run_append_owned_none (P:=P) (w:=w) base t o.type e i size ht hi v n xs hown;rw [<- zdp ht ht2] at hrun;unfold Oper.wp;simp [execOp,ho,resolve,invoke,builtin,hs,hx,hrun,Result.andThen];exact hK _ _ (h v w (by simpa using hown) ⟨rfl,rfl,rfl,zrj _,fun _ _ _=>rfl⟩)
 | some ad=>
  have hnews:∀ j u,news[j]? = some u->w.cell? (ad.add j)=some u:=fun j u hj=>by
   obtain ⟨g,oo,e1,hcell⟩:=hc j u hj;cases e1;rw [yN];exact hcell
  obtain ⟨v',w',hr,h2,h3,_⟩:=run_append_own (P:=P) w base t o.type e i z size bytes ht hi hz q1 q2 q3 q4 v n xs hown ad m c news hl hnews h1 h63 hbytes hbase;rw [<- zdp ht ht2] at hr;unfold Oper.wp execOp;simp only [ho,resolve,invoke,builtin,Sem.run_bind,Sem.run_pure,Result.andThen_ok,List.map_toArray,List.map_cons,List.map_nil,hs,hx,hr];exact hK _ _ (h v' w' h2 h3)
def xA (R:List zF):List ByteArray:=R.flatMap fun r=>[r.1,r.2]
theorem zhT {R:List zF} {k:Nat} {r:zF} (h:R[k]? = some r):xA (R.take (k+1))=xA (R.take k)++[r.1,r.2]:=by
 unfold xA;rw [zri,h,List.flatMap_append];simp
theorem zb3 (R:List zF):(xA R).length=R.length*2:=by
 unfold xA;induction R with
 | nil=>rfl
 | cons r R ih=>rw [List.flatMap_cons,zq3,ih];simp;omega
def Yy (C:List zq):List ByteArray:=C.flatMap fun c=>c.sp :: c.fr
theorem zhV {C:List zq} {k:Nat} {c:zq} (h:C[k]? = some c):Yy (C.take (k+1))=Yy (C.take k)++(c.sp :: c.fr):=by
 unfold Yy;rw [zri,h,List.flatMap_append];simp
theorem zar (a b:List ByteArray):zK (a++b)=zK a++zK b:=by unfold zK;rw [List.map_append]
theorem zaq (a:List ByteArray):(zK a).length=a.length:=by unfold zK;rw [zq4]
theorem zdC {w0 w w':World} {t:TypeId} {sz n:Nat} {v:Value} {xs:List Value} (h:w.ownsRow w0.heap.size t sz v n xs) (k:Chg (fun _=>False) w0 w) (g:w.grownBy w' v.ownBlock):Chg (fun _=>False) w0 w':=
 k.next (Chg.of_grown g) (fun x hx e=>by have:=(h.lt x e).1;omega)
def Yx (L:List Za):List ByteArray:=L.flatMap fun x=>x.2
theorem zhU {L:List Za} {k:Nat} {x:Za} (h:L[k]? = some x):Yx (L.take (k+1))=Yx (L.take k)++x.2:=by
 unfold Yx;rw [zri,h,List.flatMap_append];simp
structure zqN (R:List zF) (C:List zq) (L:List Za) (c:List ByteArray):Prop where
 rules:R.length<=1048576
 certs:C.length<=1048576
 ents:L.length<=1048576
 set:c.length<=1048576
 fr:∀ k∈C,k.fr.length<=1048576
 who:∀ x∈L,x.2.length<=1048576
structure zle (R:List zF) (C:List zq) (L:List Za) (c:List ByteArray):Prop where
 certs:C.length<=8
 rules:R.length<=12∨400 < R.length
 ents:L.length<=20
 word:∀ r∈R.take 401,r.1.size<=100∧r.2.size<=100
 cert:∀ k∈C,k.sp.size<=100∧k.fr.length<=1200∧∀ x∈k.fr,x.size<=100
 who:∀ x∈L,x.2.length<=1200∧∀ z∈x.2,z.size<=100
 set:c.length<=1200∧∀ x∈c,x.size<=100
theorem zn9 {R:List zF} {C:List zq} {L:List Za} {c:List ByteArray} (h1:C.length<=8∧(R.length<=12∨400 < R.length)∧L.length<=20) (hl:((c++xA (R.take 401))++Yy C++Yx L).length<=1200) (h:∀ x∈(c++xA (R.take 401))++Yy C++Yx L,x.size<=100):zle R C L c:=by
 have hc:∀ k∈C,∀ x∈(k.sp :: k.fr),x.size<=100:=fun k hk x hx=>h x (List.mem_append_left _ (List.mem_append_right _ (List.mem_flatMap.2 ⟨k,hk,hx⟩)));have hw:∀ x∈L,∀ z∈x.2,z.size<=100:=fun x hx z hz=>h z (List.mem_append_right _ (List.mem_flatMap.2 ⟨x,hx,hz⟩));rw [zq3,zq3,zq3] at hl
 have lc:∀ k∈C,k.fr.length<=(Yy C).length:=fun k hk=>by
  unfold Yy;obtain ⟨s,t,rfl⟩:=List.append_of_mem hk;rw [List.flatMap_append,List.flatMap_cons,zq3,zq3,List.length_cons];omega
 have lw:∀ x∈L,x.2.length<=(Yx L).length:=fun x hx=>by
  unfold Yx;obtain ⟨s,t,rfl⟩:=List.append_of_mem hx;rw [List.flatMap_append,List.flatMap_cons,zq3,zq3];omega
 refine ⟨h1.1,h1.2.1,h1.2.2,fun r hr=>?_,fun k hk=>⟨hc k hk _ (by simp),by have:=lc k hk;omega,fun x hx=>hc k hk x (List.mem_cons_of_mem _ hx)⟩,fun x hx=>⟨by have:=lw x hx;omega,hw x hx⟩,by omega,fun x hx=>h x (List.mem_append_left _ (List.mem_append_left _ (List.mem_append_left _ hx)))⟩;have q:∀ x∈[r.1,r.2],x.size<=100:=fun x hx=>h x (List.mem_append_left _ (List.mem_append_left _ (List.mem_append_right _ (List.mem_flatMap.2 ⟨r,hr,hx⟩))));exact ⟨q _ (by simp),q _ (by simp)⟩
def zfP (w:World) (R:List zF) (C:List zq) (L:List Za) (c:List ByteArray) (e:Ending) (w':World):Prop:=∃ b:Bool,e=.returned (.bool b)∧Chg (fun _=>False) w w'∧(b=false->zle R C L c)
set_option maxHeartbeats 8000000 in
set_option maxRecDepth 100000 in
theorem ziz (w:World) (ra:Option Addr) (R:List zF) (rc:Nat) (v lv cv:Value) (P:List (zq × Value)) (L:List Za) (op bo:Int) (c:List ByteArray) (hR:zX w (.slice ra R.length rc) (· < w.heap.size) R) (hv:ym w v (· < w.heap.size) P) (hl:ZI w lv (· < w.heap.size) L) (hc:xf w cv (· < w.heap.size) c) (hu:zqN R (zk P) L c):
  Calls Tryz.prog 10 #[.agg #[.slice ra R.length rc,v,lv,.int .i64 op,cv,.int .i64 bo]] w (zfP w R (zk P) L c):=by
 have k1:=zi (fun _=>False) w (.cells #[.slice ra R.length rc,v,lv,.int .i64 op,cv,.int .i64 bo] 28);have O1:=ze (zh w (.cells #[.slice ra R.length rc,v,lv,.int .i64 op,cv,.int .i64 bo] 28));have K1:=ze k1;have HR:=ze hR;have HV:=ze hv;have HL:=ze hl;have HC:=ze hc;have HU:=ze hu;obtain ⟨_,_,e0,hr0,_⟩:=hR;cases e0;obtain ⟨la,lcap,rfl,hl0,_⟩:=hv;obtain ⟨xla,xlc,rfl,_,_⟩:=hl.shape;obtain ⟨xca,xcc,rfl,_,_⟩:=id hc.at_;have NIL:=ze (show xca=none->c.length=0∧xcc=0 from fun e=>hc.nil _ _ (by rw [e]));have ur:=hu.rules;have up:=hu.certs;have ul:=hu.ents;have uc:=hu.set;rw [zQ] at up;have FIN:=ze (@zn9 R (zk P) L c);clear hl hc hu k1 hr0 hl0;go_enter Tryz.func10,Tryz.ntmps10;go_upto_region 1 with fail;have c0:=zf (o:=0) O1.out rfl;have c1:=zf (o:=1) O1.out rfl;have c2:=zf (o:=2) O1.out rfl;have c5:=zf (o:=5) O1.out rfl;generalize w.alloc (.cells #[.slice ra R.length rc,.slice la P.length lcap,.slice xla L.length xlc,.int .i64 op,.slice xca c.length xcc,.int .i64 bo] 28)=w1 at *;obtain ⟨b0,hb0⟩:∃ b0,b0=w.heap.size:=⟨_,rfl⟩;rw [<- hb0] at O1 c0 c1 c2 c5;rw [<- hb0];clear hb0;have BX:=ze (fun (W:World) (k:Chg (fun _=>False) w1 W)=>show W.heap[b0]? = some (.cells #[.slice ra R.length rc,.slice la P.length lcap,.slice xla L.length xlc,.int .i64 op,.slice xca c.length xcc,.int .i64 bo] 28 (0,0)) from k.obj (fun e=>e) O1.out);go_cut [39] (fun cv wc=>∃ x:Bool,cv=.bool x∧Hid (w1=wc)∧Hid (x=false->P.length<=8∧(R.length<=12∨400 < R.length)∧L.length<=20))
 case first=>
  by_cases h8:8 < P.length
  · have g8:decide (8 < (P.length:Int))=true:=zqY (by omega)
    have g8':decide (8 < P.length)=true:=zqY h8;go_wp2;go_meet
    case rel=>exact ⟨true,rfl,ze rfl,ze (fun e=>by cases e)⟩
  have g8:decide (8 < (P.length:Int))=false:=zqZ (by omega);have g8':decide (8 < P.length)=false:=zqZ h8;have fin1:(R.length<=12∨400 < R.length)->∀ x:Bool,(x=false->L.length<=20)->(x=false->P.length<=8∧(R.length<=12∨400 < R.length)∧L.length<=20):=fun q x h e=>⟨by omega,q,h e⟩;have FIN1:=ze fin1;clear fin1;have tail:True:=trivial;by_cases h12:12 < R.length
  · have g12:decide (12 < (R.length:Int))=true:=zqY (by omega)
    have g12':decide (12 < R.length)=true:=zqY h12;by_cases h400:R.length<=400
    · have g4:decide ((R.length:Int)<=400)=true:=zqY (by omega)
      have g4':decide (R.length<=400)=true:=zqY h400;go_wp2;go_meet
      case rel=>exact ⟨true,rfl,ze rfl,ze (fun e=>by cases e)⟩
    have g4:decide ((R.length:Int)<=400)=false:=zqZ (by omega);have g4':decide (R.length<=400)=false:=zqZ h400;have RR:=ze (show R.length<=12∨400 < R.length from .inr (by omega));by_cases h40:40 < bo
    · have g40:decide (40 < bo)=true:=zqY h40
      by_cases h50:bo<=5000
      · have g50:decide (bo<=5000)=true:=zqY h50
        go_wp2;go_meet
        case rel=>exact ⟨true,rfl,ze rfl,ze (fun e=>by cases e)⟩
      · have g50:decide (bo<=5000)=false:=zqZ h50
        by_cases h20:20 < L.length
        · have g20:decide (20 < (L.length:Int))=true:=zqY (by omega)
          have g20':decide (20 < L.length)=true:=zqY h20;go_wp2;go_meet
          case rel=>exact ⟨true,rfl,ze rfl,ze (fun e=>by cases e)⟩
        · have g20:decide (20 < (L.length:Int))=false:=zqZ (by omega)
          have g20':decide (20 < L.length)=false:=zqZ h20;go_wp2;go_meet
          case rel=>exact ⟨false,rfl,ze rfl,ze (FIN1.out RR.out _ fun _=>by omega)⟩
    · have g40:decide (40 < bo)=false:=zqZ h40
      by_cases h20:20 < L.length
      · have g20:decide (20 < (L.length:Int))=true:=zqY (by omega)
        have g20':decide (20 < L.length)=true:=zqY h20;go_wp2;go_meet
        case rel=>exact ⟨true,rfl,ze rfl,ze (fun e=>by cases e)⟩
      · have g20:decide (20 < (L.length:Int))=false:=zqZ (by omega)
        have g20':decide (20 < L.length)=false:=zqZ h20;go_wp2;go_meet
        case rel=>exact ⟨false,rfl,ze rfl,ze (FIN1.out RR.out _ fun _=>by omega)⟩
  have g12:decide (12 < (R.length:Int))=false:=zqZ (by omega);have g12':decide (12 < R.length)=false:=zqZ h12;have RR:=ze (show R.length<=12∨400 < R.length from .inl (by omega));by_cases h40:40 < bo
  · have g40:decide (40 < bo)=true:=zqY h40
    by_cases h50:bo<=5000
    · have g50:decide (bo<=5000)=true:=zqY h50
      go_wp2;go_meet
      case rel=>exact ⟨true,rfl,ze rfl,ze (fun e=>by cases e)⟩
    · have g50:decide (bo<=5000)=false:=zqZ h50
      by_cases h20:20 < L.length
      · have g20:decide (20 < (L.length:Int))=true:=zqY (by omega)
        have g20':decide (20 < L.length)=true:=zqY h20;go_wp2;go_meet
        case rel=>exact ⟨true,rfl,ze rfl,ze (fun e=>by cases e)⟩
      · have g20:decide (20 < (L.length:Int))=false:=zqZ (by omega)
        have g20':decide (20 < L.length)=false:=zqZ h20;go_wp2;go_meet
        case rel=>exact ⟨false,rfl,ze rfl,ze (FIN1.out RR.out _ fun _=>by omega)⟩
  · have g40:decide (40 < bo)=false:=zqZ h40
    by_cases h20:20 < L.length
    · have g20:decide (20 < (L.length:Int))=true:=zqY (by omega)
      have g20':decide (20 < L.length)=true:=zqY h20;go_wp2;go_meet
      case rel=>exact ⟨true,rfl,ze rfl,ze (fun e=>by cases e)⟩
    · have g20:decide (20 < (L.length:Int))=false:=zqZ (by omega)
      have g20':decide (20 < L.length)=false:=zqZ h20;go_wp2;go_meet
      case rel=>exact ⟨false,rfl,ze rfl,ze (FIN1.out RR.out _ fun _=>by omega)⟩
 case rest=>
  obtain ⟨x,rfl,hw,hx⟩:=hcut;have hw:=hw.out;subst hw;cases x with
  | true=>
   go_wp2;go_ret;exact ⟨true,rfl,K1.out,fun e=>by cases e⟩
  | false=>
  have HX:=ze (hx.out rfl);have hP8:=HX.out.1;have hL20:=HX.out.2.2;clear hx c0 c1 c2 c5;have ke:=zi (fun _=>False) w1 (.cells #[] 57);have c4:=zf (o:=4) (ke.obj (fun e=>e) O1.out) rfl;have KE:=ze ke;have SRC:=ze (zac (HC.out.at_.chg (K1.out.trans ke) (fun _ _ e=>e)));clear ke;go_wp2_with (at_builtin;refine zaO rfl (.tmp 40) (.tmp 42) 25 26 rfl 57 57 1 16 Tryz.underlying25 Tryz.underlying26 Tryz.elemWord w1.heap.size _ 0 [] rfl (ZH _ _ _ _ (zrj _)) xca c.length xcc (zK c) rfl ?a1 ?a2 ?a3 ?a4 ?a5 ?a6 ?a7 ?a8)
  case a1=>rw [zaq]
  case a2=>exact SRC.out
  case a3=>exact fun e=>by simpa using NIL.out e
  case a4=>exact Yz _
  case a5=>omega
  intro v2 w2 o2 g2;obtain ⟨a2,ac2,rfl⟩:=zl o2;have O2:=ze (show w2.ownsRow w1.heap.size 57 1 (.slice a2 (0+c.length) ac2) c.length (zK c) from by simpa using o2)
  have K2:=ze (show Chg (fun _=>False) w1 w2 from KE.out.next (Chg.of_grown g2) (fun x hx e=>by
   have e2:w1.heap.size=x:=by simpa [Value.ownBlock] using e
   omega))
  clear o2 g2 SRC KE c4;obtain ⟨N,hN⟩:∃ N,N=c++xA (R.take 401):=⟨_,rfl⟩;have HN:=ze hN;have NLE:=ze (show N.length<=1049400 from by rw [hN,zq3,zb3,zq5];omega);rw [<- hN] at FIN;clear hN;go_upto_block 0 with fail;go_cut [3] (fun sv wc=>Hid (wc.ownsRow w1.heap.size 57 1 sv N.length (zK N)∧Chg (fun _=>False) w1 wc))
  case first=>
   go_wp2_with fail;go_loopw [3,4] (fun sv iv wr=>∃ k:Nat,k<=R.length∧k<=401∧iv=.int .i64 k∧Hid (wr.ownsRow w1.heap.size 57 1 sv (c++xA (R.take k)).length (zK (c++xA (R.take k)))∧Chg (fun _=>False) w1 wr)) (fun _ iv _=>R.length - (intOf iv).toNat)
   case atStart=>exact ⟨0,by omega,by omega,rfl,ze ⟨by simpa [xA] using O2.out,K2.out⟩⟩
   case round=>
    obtain ⟨k,hk,hk4,rfl,HI⟩:=hrel;have hn1:(c++xA (R.take k)).length<=1049400:=by rw [zq3,zb3,zq5];omega
    have x0:=zf (o:=0) (BX.out wr HI.out.2) rfl
    have ends:¬ (k < R.length∧k<=400)->R.take k=R.take 401:=fun h=>by
     by_cases q:k < R.length
     · have:k=401:=by omega
       rw [this]
     · have:k=R.length:=by omega
       rw [this,zrk,List.take_of_length_le (by omega)]
    have ENDS:=ze ends;clear ends;by_cases hboth:k < R.length∧k<=400
    · as_aux_lemma=>
      obtain ⟨ya,yc,eb⟩:=zl HI.out.1;subst eb;obtain ⟨hlt,h400⟩:=hboth;have g1:decide ((k:Int) < (R.length:Int))=true:=zqY (by omega);have g1':decide (k < R.length)=true:=zqY hlt;have g2:decide ((k:Int)<=400)=true:=zqY (by omega);have g2':decide (k<=400)=true:=zqY h400;obtain ⟨⟨rf,rt⟩,hr⟩:∃ r,R[k]? = some r:=⟨_,zq0 hlt⟩;obtain ⟨_,_,e1,_,hcl⟩:=(HR.out.chg (K1.out.trans HI.out.2) (fun _ _ e=>e));cases e1;obtain ⟨lb,lo,rfl,hlb,c0,c1,z1,z2⟩:=hcl k _ hr;simp only at c0 c1 z1 z2;have NX:=ze (show c++xA (R.take (k+1))=(c++xA (R.take k))++[rf,rt] by rw [zhT hr,List.append_assoc]);have hsz:w1.heap.size<=wr.heap.size:=HI.out.2.size;have hlb1:lb < w1.heap.size:=zq7 hlb K1.out.size;have hbb:b0 < w1.heap.size:=zr O1.out;clear hcl hr;obtain ⟨M,hM⟩:∃ M,M=c++xA (R.take k):=⟨_,rfl⟩;rw [<- hM] at HI hn1 NX;rw [<- hM];clear hM;go_wp2_with fail;refine zu (N:=123) [.rd [0,1,2,3,4,5,6,7,8,9,10,11,12],.ef 13,.ef 14,.rd [15]] (fun w'=>w'.cell? ⟨b0,0,none⟩=some (.slice (some ⟨lb,lo,none⟩) R.length rc)∧w'.cell? ⟨lb,lo+k*2,none⟩=some (.string rf)∧w'.cell? ⟨lb,lo+k*2+1,none⟩=some (.string rt)) (by kernel_rfl) (by kernel_rfl) (by kernel_rfl) (by kernel_rfl) (Nat.le_of_ble_eq_true rfl) ⟨x0,c0,c1⟩ ?_;refine zB (A:=?A1) ?h1 ?h2
      case h1=>
       rintro w' ⟨z0,z1,z2⟩ K hK;simp only [zM,zqT,zqU,zqV,zqW,zqX]
       repeat still_step
       refine wpStill_nil ?_;exact hK
      have D:=ze (zw (fun _=>False) wr);have y0:=zj D.out (fun e=>e) x0;have e0:=zj D.out (fun e=>e) c0;have e1:=zj D.out (fun e=>e) c1;have HM:=ze (zn HI.out.1 D.out (fun _ _ e=>e));have KC:=ze (HI.out.2.trans D.out);have hsz2:w1.heap.size<=wr.drew.heap.size:=KC.out.size;clear D c0 c1 HI x0;generalize wr.drew=wd at *;refine zI rfl ?_;go_wp2_with fail;have ka:=zi (fun _=>False) wd (.cells #[.string rf,.string rt] 57);have ob:=zh wd (.cells #[.string rf,.string rt] 57);have x0:=zj ka (fun e=>e) y0;have f0:=zj ka (fun e=>e) e0;have f1:=zj ka (fun e=>e) e1;have HM2:=ze (zn HM.out ka (fun _ _ e=>e));have KC2:=ze (KC.out.trans ka);have hsz3:w1.heap.size<=(wd.alloc (.cells #[.string rf,.string rt] 57)).heap.size:=KC2.out.size;have SRC:=ze (show ∀ (j:Nat) u,(zK [rf,rt])[j]? = some u->∃ g o,some (⟨wd.heap.size,0,none⟩:Addr)=some ⟨g,o,none⟩∧(wd.alloc (.cells #[.string rf,.string rt] 57)).cell? ⟨g,o+j,none⟩=some u from fun j u hj=>⟨wd.heap.size,0,rfl,by rw [Nat.zero_add];exact zf ob (by simpa [zK] using hj)⟩);clear ka ob HM KC e0 e1 y0;refine ⟨⟨x0,f0,f1⟩,?_⟩;refine zI rfl ?_;generalize wd.alloc (.cells #[.string rf,.string rt] 57)=we at *;refine zV rfl (.tmp 55) (.tmp 68) 25 rfl 57 1 16 Tryz.underlying25 Tryz.elemWord w1.heap.size (.slice ya M.length yc) M.length (zK M) rfl HM2.out (some ⟨wd.heap.size,0,none⟩) 2 2 (zK [rf,rt]) rfl rfl SRC.out (fun e=>by cases e) (Yz _) (by omega) (by unfold maxLen;omega) hsz3 ?_;intro v9 w9 o9 g9;obtain ⟨a9,c9,rfl⟩:=zl o9;have K9:=ze (zdC HM2.out KC2.out g9);have O9:=ze (show w9.ownsRow w1.heap.size 57 1 (.slice a9 (M.length+2) c9) (c++xA (R.take (k+1))).length (zK (c++xA (R.take (k+1)))) by rw [NX.out,zq3,zar];exact o9);have kg:=Chg.of_grown g9;have nb:∀ j,j < w1.heap.size->¬ (Value.slice ya M.length yc).ownBlock=some j:=fun j hj e=>by have:=(HM2.out.lt j e).1;omega
      refine ⟨⟨zj kg (nb _ hbb) x0,zj kg (nb _ hlb1) f0,zj kg (nb _ hlb1) f1⟩,?_⟩;clear kg nb f0 f1 x0 SRC g9 o9 HM2 KC2 hsz hsz2 hsz3 NX;refine zB (A:=?A2) ?h3 ?h4
      case h3=>
       intro w' hS K hK;clear hS;simp only [zM,zqT,zqU,zqV,zqW,zqX]
       repeat still_step
       refine wpStill_nil ?_;exact hK
      refine zR ?_;go_wp2;go_roundw
      case rel=>exact ⟨k+1,by omega,by omega,by go_num,ze ⟨O9.out,K9.out⟩⟩
      case measure=>simp [intOf];omega
    have R1:=ze (show wr.ownsRow w1.heap.size 57 1 u3 N.length (zK N)∧Chg (fun _=>False) w1 wr from by
     have:=HI.out;rw [ENDS.out hboth] at this;rw [HN.out];exact this)
    clear HI hn1 ENDS
    rcases (show (decide ((k:Int) < (R.length:Int))=false∧decide (k < R.length)=false)∨((decide ((k:Int) < (R.length:Int))=true∧decide (k < R.length)=true)∧decide ((k:Int)<=400)=false∧decide (k<=400)=false) from by
     by_cases q:k < R.length
     · exact .inr ⟨⟨zqY (by omega),zqY q⟩,zqZ (by omega),zqZ (by omega)⟩
     · exact .inl ⟨zqZ (by omega),zqZ q⟩) with ⟨g1,g1'⟩ | ⟨⟨g1,g1'⟩,g2,g2'⟩
    · clear hboth
      go_wp2;go_meet
      case rel=>exact R1
    · clear hboth
      go_wp2;go_meet
      case rel=>exact R1
  case rest=>
   obtain ⟨ya,yc,eb⟩:=zl hcut.out.1;subst eb;have HN0:=ze hcut.out.1;have KN:=ze hcut.out.2;have hn0:=NLE.out;have c1:=zf (o:=1) (BX.out wc KN.out) rfl;have UF:=ze (show ∀ (k:Nat) x,(zk P)[k]? = some x->x.fr.length<=1048576 from fun k x hx=>HU.out.fr x (zq2 hx));have UW:=ze (show ∀ (k:Nat) x,L[k]? = some x->x.2.length<=1048576 from fun k x hx=>HU.out.who x (zq2 hx));have hbb:b0 < w1.heap.size:=zr O1.out;have HW1:=ze K1.out.size;clear hcut O2 K2 NLE HU;go_wp2;clear c1;go_loopw [3,73] (fun sv iv wr=>∃ k:Nat,k<=P.length∧iv=.int .i64 k∧Hid (wr.ownsRow w1.heap.size 57 1 sv (N++Yy ((zk P).take k)).length (zK (N++Yy ((zk P).take k)))∧Chg (fun _=>False) w1 wr)∧Hid ((N++Yy ((zk P).take k)).length<=1049400+1048577*k)) (fun _ iv _=>P.length - (intOf iv).toNat)
   case atStart=>exact ⟨0,by omega,rfl,ze ⟨by simpa [Yy] using HN0.out,KN.out⟩,ze (by simpa [Yy] using hn0)⟩
   case round=>
    obtain ⟨k,hk,rfl,HI,HJ⟩:=hrel;by_cases hlt:k < P.length
    · as_aux_lemma=>
      obtain ⟨ya,yc,eb⟩:=zl HI.out.1;subst eb;have hn1:(N++Yy ((zk P).take k)).length<=9438016:=by have:=HJ.out;omega
      have hN2:=HJ.out;have g1:decide ((k:Int) < (P.length:Int))=true:=zqY (by omega);have g1':decide (k < P.length)=true:=zqY hlt;obtain ⟨⟨x,cv⟩,hr⟩:∃ r,P[k]? = some r:=⟨_,zq0 hlt⟩;obtain ⟨_,_,e1,_,hcl⟩:=(HV.out.chg (K1.out.trans HI.out.2) (fun _ _ e=>e));cases e1;obtain ⟨lb,lo,sa,sc,rfl,hlb,e5,_,_,c2,c3,_,_,_,hset⟩:=hcl k _ hr;simp only at c2 c3 hset;have HCK:=ze (show (zk P)[k]? = some x by unfold zk;rw [zrb,hr];rfl);have NX:=ze (show N++Yy ((zk P).take (k+1))=(N++Yy ((zk P).take k))++(x.sp :: x.fr) by rw [zhV HCK.out,List.append_assoc]);have hfl:=UF.out k x HCK.out;have hset:=ze hset;have hlb1:lb < w1.heap.size:=zq7 hlb HW1.out;have x0:=zf (o:=1) (BX.out wr HI.out.2) rfl;have hsz:w1.heap.size<=wr.heap.size:=HI.out.2.size;clear hcl hr e5 HCK hlb;obtain ⟨M,hM⟩:∃ M,M=N++Yy ((zk P).take k):=⟨_,rfl⟩;rw [<- hM] at HI hn1 NX hN2;rw [<- hM];clear hM HJ;obtain ⟨kd,sg,sp,fr,cf,ct,cn⟩:=x;simp only at c2 c3 hset NX hfl;go_wp2_with fail;refine zu (N:=123) [.rd [0,1,2,3,4,5,6,9,10,11,12,13,14],.ef 7,.ef 8,.ef 15,.rd [16]] (fun w'=>w'.cell? ⟨b0,1,none⟩=some (.slice (some ⟨lb,lo,none⟩) P.length lcap)∧w'.cell? ⟨lb,lo+k*7+2,none⟩=some (.string sp)∧w'.cell? ⟨lb,lo+k*7+3,none⟩=some (.slice sa fr.length sc)) (by kernel_rfl) (by kernel_rfl) (by kernel_rfl) (by kernel_rfl) (Nat.le_of_ble_eq_true rfl) ⟨x0,c2,c3⟩ ?_;refine zB (A:=?B1) ?i1 ?i2
      case i1=>
       rintro w' ⟨z0,z1,z2⟩ K hK;simp only [zM,zqT,zqU,zqV,zqW,zqX]
       repeat still_step
       refine wpStill_nil ?_;exact hK
      have D:=ze (zw (fun _=>False) wr);have y0:=zj D.out (fun e=>e) x0;have e0:=zj D.out (fun e=>e) c2;have e1:=zj D.out (fun e=>e) c3;have HM:=ze (zn HI.out.1 D.out (fun _ _ e=>e));have KC:=ze (HI.out.2.trans D.out);have HS:=ze (hset.out.set.chg D.out (fun _ _ e=>e));have hsz2:w1.heap.size<=wr.drew.heap.size:=KC.out.size;clear D c2 c3 HI hset x0;generalize wr.drew=wd at *;refine zI rfl ?_;go_wp2_with fail;have ka:=zi (fun _=>False) wd (.cells #[.string sp] 57);have ob:=zh wd (.cells #[.string sp] 57);have x0:=zj ka (fun e=>e) y0;have f0:=zj ka (fun e=>e) e0;have f1:=zj ka (fun e=>e) e1;have HM2:=ze (zn HM.out ka (fun _ _ e=>e));have KC2:=ze (KC.out.trans ka);have HS2:=ze (HS.out.chg ka (fun _ _ e=>e));have hsz3:w1.heap.size<=(wd.alloc (.cells #[.string sp] 57)).heap.size:=KC2.out.size;have SRC:=ze (show ∀ (j:Nat) u,(zK [sp])[j]? = some u->∃ g o,some (⟨wd.heap.size,0,none⟩:Addr)=some ⟨g,o,none⟩∧(wd.alloc (.cells #[.string sp] 57)).cell? ⟨g,o+j,none⟩=some u from fun j u hj=>⟨wd.heap.size,0,rfl,by rw [Nat.zero_add];exact zf ob (by simpa [zK] using hj)⟩);clear ka ob HM KC e0 e1 HS y0;refine ⟨⟨x0,f0,f1⟩,?_⟩;refine zI rfl ?_;generalize wd.alloc (.cells #[.string sp] 57)=we at *;refine zV rfl (.tmp 76) (.tmp 83) 25 rfl 57 1 16 Tryz.underlying25 Tryz.elemWord w1.heap.size (.slice ya M.length yc) M.length (zK M) rfl HM2.out (some ⟨wd.heap.size,0,none⟩) 1 1 (zK [sp]) rfl rfl SRC.out (fun e=>by cases e) (Yz _) (by omega) (by unfold maxLen;omega) hsz3 ?_;intro v9 w9 o9 g9;obtain ⟨a9,c9,rfl⟩:=zl o9;have K9:=ze (zdC HM2.out KC2.out g9);have O9:=ze (show w9.ownsRow w1.heap.size 57 1 (.slice a9 (M.length+1) c9) (M.length+1) (zK M++zK [sp]) from o9);have kg:=Chg.of_grown g9;have nb:∀ j,j < w1.heap.size->¬ (Value.slice ya M.length yc).ownBlock=some j:=fun j hj e=>by have:=(HM2.out.lt j e).1;omega
      have f9:=zj kg (nb b0 hbb) x0;have f2:=zj kg (nb lb hlb1) f0;have f3:=zj kg (nb lb hlb1) f1;have HS3:=ze (HS2.out.chg kg (fun j hj e=>nb j (zq7 hj HW1.out) e));have hsz4:w1.heap.size<=w9.heap.size:=K9.out.size;refine ⟨⟨f9,f2,f3⟩,?_⟩;clear kg nb f0 f1 x0 SRC g9 o9 HM2 KC2 hsz hsz2 hsz3 HS2;refine zI rfl ?_;have SRC2:=ze (zac HS3.out.at_);have NIL2:=ze (show sa=none->fr.length=0∧sc=0 from fun e=>HS3.out.nil _ _ (by rw [e]));refine zaO rfl (.tmp 84) (.tmp 90) 25 26 rfl 57 57 1 16 Tryz.underlying25 Tryz.underlying26 Tryz.elemWord w1.heap.size (.slice a9 (M.length+1) c9) (M.length+1) (zK M++zK [sp]) rfl O9.out sa fr.length sc (zK fr) rfl (by rw [zaq,Nat.mul_one]) SRC2.out NIL2.out (Yz _) (by omega) (by unfold maxLen;omega) hsz4 ?_;intro v8 w8 o8 g8;obtain ⟨a8,c8,rfl⟩:=zl o8;have K8:=ze (zdC O9.out K9.out g8)
      have O8:=ze (show w8.ownsRow w1.heap.size 57 1 (.slice a8 (M.length+1+fr.length) c8) (N++Yy ((zk P).take (k+1))).length (zK (N++Yy ((zk P).take (k+1)))) by
       rw [NX.out,zar,zq3,List.length_cons];have e7:M.length+(fr.length+1)=M.length+1+fr.length:=by omega
       rw [e7];have e8:zK M++zK (sp :: fr)=zK M++zK [sp]++zK fr:=by rw [List.append_assoc];rfl
       rw [e8];exact o8)
      have LN:=ze (show (N++Yy ((zk P).take (k+1))).length<=1049400+1048577*(k+1) by rw [NX.out,zq3,List.length_cons];omega);have kg:=Chg.of_grown g8;have nb:∀ j,j < w1.heap.size->¬ (Value.slice a9 (M.length+1) c9).ownBlock=some j:=fun j hj e=>by have:=(O9.out.lt j e).1;omega
      refine ⟨⟨zj kg (nb b0 hbb) f9,zj kg (nb lb hlb1) f2,zj kg (nb lb hlb1) f3⟩,?_⟩;clear kg nb f2 f3 f9 SRC2 NIL2 g8 o8 K9 O9 hsz4 NX HS3;refine zB (A:=?B2) ?i3 ?i4
      case i3=>
       intro w' hS K hK;clear hS;simp only [zM,zqT,zqU,zqV,zqW,zqX]
       repeat still_step
       refine wpStill_nil ?_;exact hK
      refine zR ?_;go_wp2;go_roundw
      case rel=>exact ⟨k+1,by omega,by go_num,ze ⟨O8.out,K8.out⟩,LN⟩
      case measure=>simp [intOf];omega
    obtain rfl:k=P.length:=by omega
    have et:(zk P).take P.length=zk P:=by rw [<- zQ P,zrk]
    rw [et] at HI HJ;obtain ⟨N2,hN2⟩:∃ N2,N2=N++Yy (zk P):=⟨_,rfl⟩;rw [<- hN2] at HI HJ FIN;clear hN2 et;obtain ⟨ya,yc,eb⟩:=zl HI.out.1;subst eb;have M0:=ze HI.out.1;have KM:=ze HI.out.2;have hm0:=HJ.out;have c2:=zf (o:=2) (BX.out wr KM.out) rfl;clear HI HJ hlt hk HN0 KN hn0;go_wp2;clear c2;obtain ⟨wo,hwo⟩:∃ wo,wo=wr:=⟨_,rfl⟩;subst hwo;go_loopw [3,96] (fun sv iv wr=>∃ k:Nat,k<=L.length∧iv=.int .i64 k∧Hid (wr.ownsRow w1.heap.size 57 1 sv (N2++Yx (L.take k)).length (zK (N2++Yx (L.take k)))∧Chg (fun _=>False) w1 wr)∧Hid ((N2++Yx (L.take k)).length<=9438016+1048576*k)) (fun _ iv _=>L.length - (intOf iv).toNat)
    case atStart=>exact ⟨0,by omega,rfl,ze ⟨by simpa [Yx] using M0.out,KM.out⟩,ze (by simp [Yx];omega)⟩
    case round=>
     obtain ⟨k,hk,rfl,HI,HJ⟩:=hrel;by_cases hlt:k < L.length
     · as_aux_lemma=>
       obtain ⟨ya,yc,eb⟩:=zl HI.out.1;subst eb;have hn1:(N2++Yx (L.take k)).length<=30409536:=by have:=HJ.out;omega
       have hN2:=HJ.out;have g1:decide ((k:Int) < (L.length:Int))=true:=zqY (by omega);have g1':decide (k < L.length)=true:=zqY hlt;obtain ⟨x,hx⟩:∃ x,L[k]? = some x:=⟨_,zq0 hlt⟩;obtain ⟨g,o,sa,sc,hla,hlb,_,d1,hs⟩:=(HL.out.chg (K1.out.trans HI.out.2) (fun _ _ e=>e)).get hx;cases hla;have NX:=ze (show N2++Yx (L.take (k+1))=(N2++Yx (L.take k))++x.2 by rw [zhU hx,List.append_assoc]);have hfl:=UW.out k x hx;have SRC:=ze (zac hs.at_);have NIL2:=ze (show sa=none->x.2.length=0∧sc=0 from fun e=>hs.nil _ _ (by rw [e]));have x0:=zf (o:=2) (BX.out wr HI.out.2) rfl;have hsz:w1.heap.size<=wr.heap.size:=HI.out.2.size;clear hx hs HJ;obtain ⟨M,hM⟩:∃ M,M=N2++Yx (L.take k):=⟨_,rfl⟩;rw [<- hM] at HI hn1 NX hN2;rw [<- hM];clear hM;obtain ⟨xo,xw⟩:=x;simp only at d1 NX hfl SRC NIL2;go_wp2_with (at_builtin;refine zaO rfl (.tmp 99) (.tmp 105) 25 26 rfl 57 57 1 16 Tryz.underlying25 Tryz.underlying26 Tryz.elemWord w1.heap.size (.slice ya M.length yc) M.length (zK M) rfl HI.out.1 sa xw.length sc (zK xw) rfl ?j1 ?j2 ?j3 ?j4 ?j5 ?j6 ?j7 ?j8)
       case j1=>rw [zaq]
       case j2=>exact SRC.out
       case j3=>exact fun e=>by simpa using NIL2.out e
       case j4=>exact Yz _
       case j5=>omega
       case j6=>unfold maxLen;omega
       intro v8 w8 o8 g8;obtain ⟨a8,c8,rfl⟩:=zl o8;have K8:=ze (zdC HI.out.1 HI.out.2 g8);have O8:=ze (show w8.ownsRow w1.heap.size 57 1 (.slice a8 (M.length+xw.length) c8) (N2++Yx (L.take (k+1))).length (zK (N2++Yx (L.take (k+1)))) by rw [NX.out,zar,zq3];exact o8);have LN:=ze (show (N2++Yx (L.take (k+1))).length<=9438016+1048576*(k+1) by rw [NX.out,zq3];omega);clear SRC NIL2 g8 o8 HI NX x0 d1;go_wp2;go_roundw
       case rel=>exact ⟨k+1,by omega,by go_num,ze ⟨O8.out,K8.out⟩,LN⟩
       case measure=>simp [intOf];omega
     obtain rfl:k=L.length:=by omega
     rw [zrk] at HI HJ;obtain ⟨M,hM⟩:∃ M,M=N2++Yx L:=⟨_,rfl⟩;rw [<- hM] at HI HJ FIN;clear hM M0 KM hm0;obtain ⟨ya,yc,eb⟩:=zl HI.out.1;subst eb;have HM:=ze HI.out.1;have KM:=ze HI.out.2;have hml:=HJ.out;clear HI HJ hlt hk;by_cases h12:1200 < M.length
     · as_aux_lemma=>
       have g1:decide (1200 < (M.length:Int))=true:=zqY (by omega);have g1':decide (1200 < M.length)=true:=zqY h12;go_wp2;go_ret;exact ⟨true,rfl,K1.out.trans KM.out,fun e=>by cases e⟩
     have g1:decide (1200 < (M.length:Int))=false:=zqZ (by omega);have g1':decide (1200 < M.length)=false:=zqZ h12;have FIN2:=ze (fun h=>FIN.out (by rw [zQ];exact HX.out) (show M.length<=1200 from by omega) h);go_wp2;clear g1 g1';obtain ⟨wo2,hwo⟩:∃ wo2,wo2=wr:=⟨_,rfl⟩;subst hwo;go_loopw [113] (fun iv wr=>∃ k:Nat,k<=M.length∧iv=.int .i64 k∧Hid (wo2=wr)∧Hid (∀ (j:Nat) x,j < k->M[j]? = some x->x.size<=100)) (fun iv _=>M.length - (intOf iv).toNat)
     case atStart=>exact ⟨0,by omega,rfl,ze rfl,ze (fun j r hj=>by omega)⟩
     case round=>
      obtain ⟨k,hk,rfl,hw,HI⟩:=hrel;have hw:=hw.out;subst hw;by_cases hlt:k < M.length
      rotate_left
      · as_aux_lemma=>
        obtain rfl:k=M.length:=by omega
        have g1:decide ((M.length:Int) < (M.length:Int))=false:=zqZ (by omega);have g1':decide (M.length < M.length)=false:=zqZ (by omega);go_wp2;go_ret
        exact ⟨false,rfl,K1.out.trans KM.out,fun _=>FIN2.out fun x hx=>by
         obtain ⟨j,hj⟩:=List.mem_iff_getElem?.1 hx;exact HI.out j x (zq1.1 hj).1 hj⟩
      as_aux_lemma=>
      have g1:decide ((k:Int) < (M.length:Int))=true:=zqY (by omega);have g1':decide (k < M.length)=true:=zqY hlt;obtain ⟨x,hx⟩:∃ x,M[k]? = some x:=⟨_,zq0 hlt⟩;obtain ⟨_,_,e1,_,hcs⟩:=XY HM.out;cases e1;obtain ⟨g,rfl,_,c0⟩:=hcs k (.string x) (by unfold zK;rw [zrb,hx];rfl);have c0':wo2.cell? ⟨g,k,none⟩=some (.string x):=c0
      have NX:=ze (show x.size<=100->∀ (j:Nat) y,j < k+1->M[j]? = some y->y.size<=100 from fun z j y hj hjy=>by
       rcases Nat.lt_or_ge j k with q | q
       · exact HI.out j y q hjy
       · obtain rfl:j=k:=by omega
         rw [hx] at hjy;cases hjy;exact z)
      clear hcs hx c0 HI;by_cases h100:100 < x.size
      · have m3:decide (100 < (x.size:Int))=true:=zqY (by omega)
        have m3':decide (100 < x.size)=true:=zqY h100;go_wp2;go_ret;exact ⟨true,rfl,K1.out.trans KM.out,fun e=>by cases e⟩
      have m3:decide (100 < (x.size:Int))=false:=zqZ (by omega);have m3':decide (100 < x.size)=false:=zqZ h100;have NX2:=ze (NX.out (by omega));go_wp2;go_roundw
      case rel=>exact ⟨k+1,by omega,by go_num,ze (by first | trivial | rfl),NX2⟩
      case measure=>simp [intOf];omega
end Go.Proofs.YthdfplafihmejaaGreat
