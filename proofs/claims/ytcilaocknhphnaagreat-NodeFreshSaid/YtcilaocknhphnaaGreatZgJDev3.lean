/-
  Wide: what else. Layer 20 in plain Lean: what a device and its journal do, as functions on lists. No program in sight. The device of package journal: its functions, each by a contract over the plain model. The device of package journal: Write. The device of package journal: settle, Barrier, Read, Fuse, Dead, and Write at any input.
-/
import Derived.Test.YtcilaocknhphnaaGreatZgRBase
import Derived.Test.YtcilaocknhphnaaGreatZgCSet
import Derived.Test.YtcilaocknhphnaaGreatZgCLike
import Derived.Test.YtcilaocknhphnaaGreatZgKit2
import Derived.StillTailTactics
import Derived.Handy
namespace Go.Proofs.YtcilaocknhphnaaGreat
open Go.RowKit Go.Maps
theorem xE {P:Program} {g:Nat} {t:TypeId}:∀ (vs:List Value) (w:World) (k:Nat) (cs:Array Value),(∀ v∈vs,v.oneCell'=true)->w.heap[g]? = some (.cells cs t (0,0))->k+vs.length<=cs.size ->
  ∃ (W:World) (ds:Array Value),(Go.storeCells ⟨g,0,none⟩ vs k).run P w=.ok () W∧W.heap[g]? = some (.cells ds t (0,0))∧Chg (·=g) w W∧ds.size=cs.size∧(∀ j,j < k->ds[j]? = cs[j]?)∧∀ j,j < vs.length->ds[k+j]? = vs[j]?
 | [],w,k,cs,_,h,_=>⟨w,cs,rfl,h,Chg.refl _ _,rfl,fun _ _=>rfl,fun j hj=>by simp at hj⟩
 | v :: r,w,k,cs,h1,h,hk=>by
  rw [List.length_cons] at hk
  have hst:(store (⟨g,k,none⟩:Addr) v).run P w=.ok () (w.setCell ⟨g,k,none⟩ v):=by
   have hc:w.cell? ⟨g,k,none⟩=some cs[k]:=zg h (Array.getElem?_eq_getElem (by omega));rw [run_store P w _ v _ (h1 v List.mem_cons_self),hc];simp [zk (o:=k) h]
  obtain ⟨W,ds,q1,q2,q3,q4,q5,q6⟩:=xE r (w.setCell ⟨g,k,none⟩ v) (k+1) (cs.setIfInBounds k v) (fun u hu=>h1 u (List.mem_cons_of_mem _ hu)) (zq h v) (by simp;omega);refine ⟨W,ds,?_,q2,(zA w g k v).trans q3,by rw [q4];simp,fun j hj=>?_,fun j hj=>?_⟩
  ·have ha:(⟨g,0,none⟩:Addr).add k=⟨g,k,none⟩:=by rw [yj];simp
   unfold Go.storeCells;rw [ha];simp only [Sem.run_bind,hst,Result.andThen_ok];exact q1
  ·rw [q5 j (by omega)]
   rw [Array.getElem?_setIfInBounds];rw [if_neg (by omega)]
  ·cases j with
   | zero=>
    rw [Nat.add_zero,q5 k (by omega),Array.getElem?_setIfInBounds,if_pos rfl,if_pos (by omega)];rfl
   | succ j=>
    have:=q6 j (by simpa using hj);rw [show k+(j+1)=k+1+j by omega,this];rfl
theorem YR {P:Program} {ops:Array Oper} {w:World} {Q:Exit->Act->World->Prop} {a:Act} {o:Oper} {rest:List Oper} (hgd:o.guard=none) (ty:TypeId) (x y:Operand) (ho:o.op=.store ty x y)
  (g:Nat) (hx:a.eval x=.pointer (some ⟨g,0,none⟩)) (v:Value) (hy:a.eval y=v) (h1:∀ u∈v.cells.toList,u.oneCell'=true) (cs:Array Value) (t:TypeId) (hg:w.heap[g]? = some (.cells cs t (0,0))) (hs:cs.size=v.cells.size) (hi:(P.info? ty).map (·.size)=some v.cells.size)
  (h:∀ w',w'.heap[g]? = some (.cells v.cells t (0,0))->Chg (·=g) w w'->wpList P ops Q rest (a.put o.dst undef) w'):wpList P ops Q (o :: rest) a w:=by
 refine wpList_plain hgd fun K hK=>?_;obtain ⟨W,ds,q1,q2,q3,q4,_,q6⟩:=xE (P:=P) v.cells.toList w 0 cs h1 hg (by simp;omega)
 have hd:ds=v.cells:=by
  refine Array.ext' ?_;refine List.ext_getElem? (fun j=>?_);rcases Nat.lt_or_ge j v.cells.toList.length with hj | hj
  ·have:=q6 j hj
   rw [Nat.zero_add] at this;rw [<- this];simp
  ·rw [zlP hj,zlP (by simp at hj ⊢;omega)]
 rw [hd] at q2;cases hq:P.info? ty with
 | none=>simp [hq] at hi
 | some i=>
  have hin:i.size=v.cells.size:=by simpa [hq] using hi
  unfold Oper.wp execOp;simp only [ho,hx,hy,Instr.storeAt,Instr.sureAddr,storeVar];simp [sizeOf,typeInfo,hq,hin,q1];exact hK _ _ (h _ q2 q3)

structure Dev where
  now:List (List UInt8)
  sure:List (List UInt8)
  pend:List Bool
  fuse:Int
  on:Bool
  dead:Bool

def zdo:List UInt8:=List.replicate 32 0
def pad (s:List UInt8):List UInt8:=s++List.replicate (32 - s.length) 0
def Dev.new (n:Nat):Dev:=⟨List.replicate n zdo,List.replicate n zdo,List.replicate n false,0,false,false⟩
structure Dev.Ok (n:Nat) (d:Dev):Prop where
  lo:3<=n
  hi:n<=65
  lnow:d.now.length=n
  lsure:d.sure.length=n
  lpend:d.pend.length=n
  wnow:∀ s∈d.now,s.length=32
  wsure:∀ s∈d.sure,s.length=32
  fuse0:0<=d.fuse
  fuse1:d.fuse<=9223372036854775807

def Dev.stops (d:Dev):Bool:=d.dead || (d.on && d.fuse == 0)
def Dev.burnt (d:Dev):Dev:=if d.stops then { d with dead:=true } else { d with fuse:=if d.on then d.fuse - 1 else d.fuse }
def Dev.put (d:Dev) (i:Nat) (s:List UInt8):Dev:={ d with now:=d.now.set i (pad s),pend:=d.pend.set i true }
def Dev.settle (d:Dev):Dev:={ d with sure:=d.now,pend:=List.replicate d.pend.length false }
def Dev.write (d:Dev) (i:Int) (s:List UInt8):Dev × Int:=
  if d.dead then (d,20)
  else if i < 0∨(d.now.length:Int)<=i then (d,5)
  else if 32 < s.length then (d,4)
  else if d.stops then (d.burnt,20)
  else (d.burnt.put i.toNat s,0)
def Dev.barrier (d:Dev):Dev × Int:=if d.stops then (d.burnt,20) else (d.burnt.settle,0)
def zdq (p:List Bool) (i:Nat):Nat:=(p.take i).countP id
def XB (d:Dev) (keep:List Bool) (i:Nat):List UInt8:=
  if d.pend.getD i false && !keep.getD (zdq d.pend i) false then d.sure.getD i [] else d.now.getD i []
def zZ (d:Dev) (keep:List Bool) (j:Nat):List (List UInt8):=(List.range d.now.length).map fun i=>if i < j then XB d keep i else d.now.getD i []
def Dev.crash (d:Dev) (keep:List Bool):Dev:=
  { now:=zZ d keep d.now.length,sure:=zZ d keep d.now.length,pend:=List.replicate d.pend.length false,fuse:=0,on:=false,dead:=false }
theorem zfv (s:List UInt8) (h:s.length<=32):(pad s).length=32:=by simp [pad];omega
theorem xI:zdo.length=32:=by simp [zdo]
theorem Dev.ok_new (n:Nat) (h:3<=n) (h':n<=65):(Dev.new n).Ok n:=by
 refine ⟨h,h',by simp [Dev.new],by simp [Dev.new],by simp [Dev.new],?_,?_,by simp [Dev.new],by simp [Dev.new]⟩
 all_goals intro s hs;simp only [Dev.new] at hs;rw [List.eq_of_mem_replicate hs];exact xI
theorem Dev.Ok.burnt {n:Nat} {d:Dev} (h:d.Ok n):d.burnt.Ok n:=by
 unfold Dev.burnt;split
 ·exact ⟨h.lo,h.hi,h.lnow,h.lsure,h.lpend,h.wnow,h.wsure,h.fuse0,h.fuse1⟩
 ·rename_i hs
  have h0:=h.fuse0;have h1:=h.fuse1;refine ⟨h.lo,h.hi,h.lnow,h.lsure,h.lpend,h.wnow,h.wsure,?_,?_⟩ <;> dsimp only <;> split
  ·rename_i ho;simp [Dev.stops,ho] at hs;omega
  ·exact h0
  ·omega
  ·exact h1
theorem Dev.Ok.put {n:Nat} {d:Dev} (h:d.Ok n) (i:Nat) (s:List UInt8) (hs:s.length<=32):(d.put i s).Ok n:=by
 refine ⟨h.lo,h.hi,by simp [Dev.put,h.lnow],h.lsure,by simp [Dev.put,h.lpend],?_,h.wsure,h.fuse0,h.fuse1⟩;intro x hx;rcases List.mem_or_eq_of_mem_set hx with hx | rfl
 ·exact h.wnow x hx
 ·exact zfv s hs
theorem Dev.Ok.settle {n:Nat} {d:Dev} (h:d.Ok n):d.settle.Ok n:=
 ⟨h.lo,h.hi,h.lnow,h.lnow,by simp [Dev.settle,h.lpend],h.wnow,h.wnow,h.fuse0,h.fuse1⟩
theorem yy {l:List (List UInt8)} (h:∀ s∈l,s.length=32) {i:Nat} (hi:i < l.length):(l.getD i []).length=32:=by
 rw [List.getD_eq_getElem?_getD,List.getElem?_eq_getElem hi];exact h _ (List.getElem_mem hi)
theorem zef {n:Nat} {d:Dev} (h:d.Ok n) (keep:List Bool) {i:Nat} (hi:i < n):(XB d keep i).length=32:=by
 unfold XB;split
 ·exact yy h.wsure (by rw [h.lsure];exact hi)
 ·exact yy h.wnow (by rw [h.lnow];exact hi)
theorem Yk {n:Nat} {d:Dev} (h:d.Ok n) (keep:List Bool) (j:Nat):∀ s∈zZ d keep j,s.length=32:=by
 intro s hs;simp only [zZ,List.mem_map,List.mem_range] at hs;obtain ⟨i,hi,rfl⟩:=hs;rw [h.lnow] at hi;split
 ·exact zef h keep hi
 ·exact yy h.wnow (by rw [h.lnow];exact hi)
theorem Dev.Ok.crash {n:Nat} {d:Dev} (h:d.Ok n) (keep:List Bool):(d.crash keep).Ok n:=
 ⟨h.lo,h.hi,by simp [Dev.crash,zZ,h.lnow],by simp [Dev.crash,zZ,h.lnow],by simp [Dev.crash,h.lpend],Yk h keep _,Yk h keep _,by simp [Dev.crash],by simp [Dev.crash]⟩
theorem yF {l:List (List UInt8)} (h:∀ s∈l,s.length=32):l.flatten.length=32*l.length:=by
 induction l with
 | nil=>rfl
 | cons x r ih=>simp [h x (by simp),ih (fun s hs=>h s (by simp [hs]))];omega
theorem Xo (l:List (List UInt8)) (i:Nat):l.flatten=(l.take i).flatten++(l.drop i).flatten:=by
 rw [<- List.flatten_append,List.take_append_drop]
theorem zc2 {l:List (List UInt8)} (h:∀ s∈l,s.length=32) {i:Nat} (hi:i<=l.length):(l.take i).flatten=l.flatten.take (32*i):=by
 have hl:(l.take i).flatten.length=32*i:=by
  rw [yF (fun s hs=>h s (List.mem_of_mem_take hs)),List.length_take];omega
 rw [Xo l i,List.take_append_of_le_length (Nat.le_of_eq hl.symm),List.take_of_length_le (Nat.le_of_eq hl)]
theorem XR {l:List (List UInt8)} (h:∀ s∈l,s.length=32) {i:Nat} (hi:i<=l.length):(l.drop i).flatten=l.flatten.drop (32*i):=by
 have hl:(l.take i).flatten.length=32*i:=by
  rw [yF (fun s hs=>h s (List.mem_of_mem_take hs)),List.length_take];omega
 rw [Xo l i,List.drop_append_of_le_length (Nat.le_of_eq hl.symm),List.drop_of_length_le (Nat.le_of_eq hl),List.nil_append]
theorem zaL {l:List (List UInt8)} (h:∀ s∈l,s.length=32) {i:Nat} (hi:i < l.length):l.getD i []=(l.flatten.drop (32*i)).take 32:=by
 rw [<- XR h (Nat.le_of_lt hi)]
 have:l.drop i=l.getD i [] :: l.drop (i+1):=by
  rw [List.getD_eq_getElem?_getD,List.getElem?_eq_getElem hi,Option.getD_some,List.getElem_cons_drop]
 rw [this,List.flatten_cons,List.take_append_of_le_length (by rw [yy h hi];exact Nat.le_refl _),List.take_of_length_le (by rw [yy h hi];exact Nat.le_refl _)]
theorem zaK {l:List (List UInt8)} (h:∀ s∈l,s.length=32) {i:Nat} (hi:i < l.length) (x:List UInt8):
  (l.set i x).flatten=l.flatten.take (32*i)++(x++l.flatten.drop (32*i+32)):=by
 rw [List.set_eq_take_append_cons_drop,if_pos hi,List.flatten_append,List.flatten_cons,zc2 h (Nat.le_of_lt hi),XR h (by omega)];rw [show 32*(i+1)=32*i+32 from by omega]
theorem zgZ (p:List Bool) (j:Nat) (hj:j < p.length):zdq p (j+1)=zdq p j+if p.getD j false then 1 else 0:=by
 unfold zdq;rw [List.take_succ_eq_append_getElem hj,List.countP_append,List.getD_eq_getElem?_getD,List.getElem?_eq_getElem hj];cases p[j] <;> simp
theorem zjs (p:List Bool) (j:Nat):zdq p j<=j:=by
 unfold zdq;exact Nat.le_trans List.countP_le_length (by simp;omega)
theorem zgY (p:List Bool):zdq p 0=0:=by simp [zdq]
theorem zcb (d:Dev) (keep:List Bool):zZ d keep 0=d.now:=by
 unfold zZ;apply List.ext_getElem
 ·simp
 ·intro i h1 h2;simp [List.getElem?_eq_getElem h2]
theorem Xq (d:Dev) (keep:List Bool) (j:Nat) (h:(d.pend.getD j false && !keep.getD (zdq d.pend j) false)=false):zZ d keep (j+1)=zZ d keep j:=by
 unfold zZ;apply List.map_congr_left;intro i _;by_cases hi:i < j
 ·rw [if_pos hi,if_pos (by omega)]
 ·rw [if_neg hi]
  by_cases hj:i=j
  ·subst hj;rw [if_pos (by omega)];unfold XB;rw [h];rfl
  ·rw [if_neg (by omega)]
theorem XT (d:Dev) (keep:List Bool) (j:Nat) (h:(d.pend.getD j false && !keep.getD (zdq d.pend j) false)=true):zZ d keep (j+1)=(zZ d keep j).set j (d.sure.getD j []):=by
 unfold zZ;apply List.ext_getElem
 ·simp
 ·intro i h1 h2
  simp only [List.length_map,List.length_range] at h1;rw [List.getElem_set];simp only [List.getElem_map,List.getElem_range];by_cases hj:j=i
  ·subst hj;rw [if_pos (by omega),if_pos rfl];unfold XB;rw [h];rfl
  ·rw [if_neg hj]
   by_cases hi:i < j
   ·rw [if_pos hi,if_pos (by omega)]
   ·rw [if_neg hi,if_neg (by omega)]
def be (l:List UInt8):Nat:=l.foldl (fun x b=>x*256+b.toNat) 0
def ziq (n:Nat):Int:=if n < 9223372036854775808 then (n:Int) else (n:Int) - 18446744073709551616
def ziX (l:List UInt8):Int:=ziq (be (l.take 8))
def Xm (l:List UInt8):Nat:=(l.getD 8 0).toNat
def xy (l:List UInt8):Nat:=(l.getD 9 0).toNat*256+(l.getD 10 0).toNat
def Dev.m (d:Dev):Nat:=(d.now.length - 1) / 2
def Dev.areaTo (d:Dev) (h i:Nat):List UInt8:=(List.range i).flatMap fun i=>d.now.getD (1+h*d.m+i) []
def Dev.area (d:Dev) (h:Nat):List UInt8:=d.areaTo h d.m
def Dev.hd (d:Dev):List UInt8:=d.now.getD 0 []
def Dev.bad (d:Dev):Prop:=1 < Xm d.hd∨d.m*32 < xy d.hd
def Dev.text (d:Dev):List UInt8:=(d.area (Xm d.hd)).take (xy d.hd)
theorem zjE (l:List UInt8) (c:UInt8):be (l++[c])=be l*256+c.toNat:=by simp [be,List.foldl_append]
theorem zkY (l:List UInt8):be l < 256 ^ l.length:=by
 have key:∀ (l:List UInt8) (x:Nat),l.foldl (fun x b=>x*256+b.toNat) x < (x+1)*256 ^ l.length:=by
  intro l;induction l with
  | nil=>intro x;simp
  | cons c r ih=>
   intro x;rw [List.foldl_cons,List.length_cons,Nat.pow_succ];have h1:=ih (x*256+c.toNat);have h2:(x*256+c.toNat+1)*256 ^ r.length<=(x+1)*256*256 ^ r.length:=Nat.mul_le_mul_right _ (by have:=c.toNat_lt;omega)
   calc _ < _:=h1
    _<=_:=h2
    _=_:=by rw [Nat.mul_assoc,Nat.mul_comm 256]
 have:=key l 0
 simpa [be] using this
theorem Dev.areaTo_succ (d:Dev) (h i:Nat):d.areaTo h (i+1)=d.areaTo h i++d.now.getD (1+h*d.m+i) []:=by
 unfold Dev.areaTo;rw [List.range_succ,List.flatMap_append];simp
theorem Dev.areaTo_length {n:Nat} {d:Dev} (ok:d.Ok n) (h:Nat) (hh:h<=1):∀ i,i<=d.m->(d.areaTo h i).length=32*i
 | 0,_=>by simp [Dev.areaTo]
 | i+1,hi=>by
  rw [Dev.areaTo_succ,List.length_append,Dev.areaTo_length ok h hh i (by omega),yy ok.wnow]
  ·omega
  ·have:d.m=(d.now.length - 1) / 2:=rfl
   have hm:h*d.m<=d.m:=by rcases (by omega:h=0∨h=1) with rfl | rfl <;> omega
   omega
theorem zir (l:List UInt8):xy l < 65536:=by
 unfold xy;have:=(l.getD 9 0).toNat_lt;have:=(l.getD 10 0).toNat_lt;omega
def yx (x:Int) (i:Nat):Nat:=(x % 18446744073709551616).toNat / 2 ^ (8*(7 - i)) % 256
def zD (x:Int) (half n:Nat):List UInt8:=((List.range 8).map fun i=>UInt8.ofNat (yx x i))++[UInt8.ofNat half,UInt8.ofNat (n / 256),UInt8.ofNat n]
theorem yK (x:Int) (half n:Nat):(zD x half n).length=11:=by simp [zD]
def zij:Nat->Dev->Nat->List UInt8->Dev × Int
  | 0,d,_,_=>d.barrier
  | k+1,d,a,s=>
    if s.length=0 then d.barrier
    else if (d.write a (s.take 32)).2=0 then zij k (d.write a (s.take 32)).1 (a+1) (s.drop 32) else d.write a (s.take 32)
def Dev.lay (d:Dev) (a:Nat) (s:List UInt8):Dev × Int:=zij (s.length+1) d a s
theorem zii:∀ (k m:Nat) (d:Dev) (a:Nat) (s:List UInt8),s.length < k->s.length < m->zij k d a s=zij m d a s:=by
 intro k;induction k with
 | zero=>intro m d a s h;omega
 | succ k ih=>
  intro m d a s h hm;obtain ⟨m,rfl⟩:∃ m',m=m'+1:=⟨m - 1,by omega⟩;rw [zij,zij];by_cases h0:s.length=0
  ·rw [if_pos h0,if_pos h0]
  ·rw [if_neg h0,if_neg h0]
   split
   ·exact ih m _ _ _ (by rw [List.length_drop];omega) (by rw [List.length_drop];omega)
   ·rfl
theorem zgV (k:Nat) (d:Dev) (a:Nat) (s:List UInt8) (h:s.length < k):zij k d a s=d.lay a s:=zii _ _ _ _ _ h (by omega)
theorem zd6 (d:Dev) (a:Nat) (s:List UInt8) (h:0 < s.length):d.lay a s=if (d.write a (s.take 32)).2=0 then Dev.lay (d.write a (s.take 32)).1 (a+1) (s.drop 32) else d.write a (s.take 32):=by
 conv=>lhs;unfold Dev.lay
 rw [zij,if_neg (by omega)];split
 ·exact zgV _ _ _ _ (by rw [List.length_drop];omega)
 ·rfl
theorem zgU (d:Dev) (a:Nat) (s:List UInt8) (h:s.length=0):d.lay a s=d.barrier:=by
 unfold Dev.lay;rw [zij,if_pos h]
structure Jr where
  number:Int
  half:Nat
  text:ByteArray

def commit (d:Dev) (j:Jr) (s:ByteArray):Dev × Int × Jr:=
  if d.dead then (d,20,j)
  else if d.m*32 < s.size then (d,4,j)
  else if 4611686018427387904<=j.number then (d,3,j)
  else
    let a:=d.lay (1+(1 - j.half)*d.m) s.data.toList
    if a.2≠0 then (a.1,a.2,j)
    else
      let b:=a.1.write 0 (zD (j.number+1) (1 - j.half) s.size)
      if b.2≠0 then (b.1,b.2,j)
      else
        let c:=b.1.barrier
        if c.2≠0 then (c.1,c.2,j) else (c.1,0,⟨j.number+1,1 - j.half,s⟩)
structure DB where
  b:Nat
  bn:Nat
  bs:Nat
  bp:Nat
  n:Nat
def DB.S (B:DB) (k:Nat):Prop:=k=B.b∨k=B.bn∨k=B.bs∨k=B.bp
def DB.head (B:DB) (d:Dev):List Value:=
  [.slice (some ⟨B.bn,0,none⟩) B.n B.n,.slice (some ⟨B.bs,0,none⟩) B.n B.n,.slice (some ⟨B.bp,0,none⟩) B.n B.n,.int .i64 d.fuse,.bool d.on,.bool d.dead]
def YB (l:List (List UInt8)):List Value:=zE l.flatten
def xe (l:List Bool):List Value:=l.map .bool
def DB.ptr (B:DB):Value:=.pointer (some ⟨B.b,0,none⟩)
structure zY (w:World) (B:DB) (d:Dev):Prop where
  hb:w.heap[B.b]? = some (.cells (B.head d).toArray 153 (0,0))
  hn:w.heap[B.bn]? = some (.cells (YB d.now).toArray 202 (0,0))
  hs:w.heap[B.bs]? = some (.cells (YB d.sure).toArray 202 (0,0))
  hp:w.heap[B.bp]? = some (.cells (xe d.pend).toArray 4 (0,0))
  ok:d.Ok B.n
  n1:B.b≠B.bn
  n2:B.b≠B.bs
  n3:B.b≠B.bp
  n4:B.bn≠B.bs
  n5:B.bn≠B.bp
  n6:B.bs≠B.bp

theorem zY.chg {w w':World} {B:DB} {d:Dev} {S:Nat->Prop} (h:zY w B d) (hc:Chg S w w') (hd:∀ k,B.S k->¬ S k):zY w' B d:=
 ⟨hc.obj (hd _ (.inl rfl)) h.hb,hc.obj (hd _ (.inr (.inl rfl))) h.hn,hc.obj (hd _ (.inr (.inr (.inl rfl)))) h.hs,hc.obj (hd _ (.inr (.inr (.inr rfl)))) h.hp,h.ok,h.n1,h.n2,h.n3,h.n4,h.n5,h.n6⟩
theorem zY.c0 {w:World} {B:DB} {d:Dev} (h:zY w B d):w.cell? ⟨B.b,0,none⟩=some (.slice (some ⟨B.bn,0,none⟩) B.n B.n):=zg h.hb rfl
theorem zY.c1 {w:World} {B:DB} {d:Dev} (h:zY w B d):w.cell? ⟨B.b,1,none⟩=some (.slice (some ⟨B.bs,0,none⟩) B.n B.n):=zg h.hb rfl
theorem zY.c2 {w:World} {B:DB} {d:Dev} (h:zY w B d):w.cell? ⟨B.b,2,none⟩=some (.slice (some ⟨B.bp,0,none⟩) B.n B.n):=zg h.hb rfl
theorem zY.c3 {w:World} {B:DB} {d:Dev} (h:zY w B d):w.cell? ⟨B.b,3,none⟩=some (.int .i64 d.fuse):=zg h.hb rfl
theorem zY.c4 {w:World} {B:DB} {d:Dev} (h:zY w B d):w.cell? ⟨B.b,4,none⟩=some (.bool d.on):=zg h.hb rfl
theorem zY.c5 {w:World} {B:DB} {d:Dev} (h:zY w B d):w.cell? ⟨B.b,5,none⟩=some (.bool d.dead):=zg h.hb rfl
theorem zY.head {w w':World} {B:DB} {d d':Dev} (h:zY w B d) (hc:Chg (·=B.b) w w') (hb:w'.heap[B.b]? = some (.cells (B.head d').toArray 153 (0,0)))
  (e1:d'.now=d.now) (e2:d'.sure=d.sure) (e3:d'.pend=d.pend) (ok:d'.Ok B.n):zY w' B d':=
 ⟨hb,by rw [e1];exact hc.obj (fun e=>h.n1 e.symm) h.hn,by rw [e2];exact hc.obj (fun e=>h.n2 e.symm) h.hs,by rw [e3];exact hc.obj (fun e=>h.n3 e.symm) h.hp,ok,h.n1,h.n2,h.n3,h.n4,h.n5,h.n6⟩
set_option maxRecDepth 100000 in
theorem zaJ (b o:Nat) (i:Int) (a:Option Addr) (n c:Nat) (w:World)
  (h0:w.cell? ⟨b,o,none⟩=some (.slice a n c)) (h1:0<=i) (h2:i < n):
  Calls Tryz.prog 134 #[.pointer (some ⟨b,o,none⟩),.int .i64 i] w fun e w'=>e=.returned (.bool true)∧w=w':=by
 go_enter Tryz.func134,Tryz.ntmps134;go_wp2;go_ret;exact ⟨rfl,rfl⟩
set_option maxRecDepth 100000 in
theorem zkm (b o:Nat) (i:Int) (a:Option Addr) (n c:Nat) (w:World)
  (h0:w.cell? ⟨b,o,none⟩=some (.slice a n c)) (h1:i < 0∨n<=i):
  Calls Tryz.prog 134 #[.pointer (some ⟨b,o,none⟩),.int .i64 i] w fun e w'=>e=.returned (.bool false)∧w=w':=by
 by_cases h:i < 0
 ·have hd:decide (0<=i)=false:=by simp;omega
  clear h1;go_enter Tryz.func134,Tryz.ntmps134;go_wp2;go_ret;exact ⟨rfl,rfl⟩
 ·have hd:decide (i < n)=false:=by simp;omega
  have hd2:0<=i:=by omega
  clear h1 h;go_enter Tryz.func134,Tryz.ntmps134;go_wp2;go_ret;exact ⟨rfl,rfl⟩
set_option maxRecDepth 100000 in
theorem zde (w:World) (B:DB) (d:Dev) (h:zY w B d) (hs:d.stops=true):
  Calls Tryz.prog 210 #[B.ptr] w fun e w'=>e=.returned (.int .i64 20)∧zY w' B d.burnt∧Chg (·=B.b) w w':=by
 have c3:=h.c3;have c4:=h.c4;have c5:=h.c5;have f5:w.frozen? ⟨B.b,5,none⟩=false:=zk h.hb;have H:=zf h;clear h;have e:d.burnt={ d with dead:=true }:=by simp [Dev.burnt,hs]
 have HE:=zf e;clear e;unfold DB.ptr;by_cases hx:d.on=true∧d.fuse=0
 ·obtain ⟨ho,hz⟩:=hx
  rw [ho] at c4;rw [hz] at c3;clear hs;go_enter Tryz.func210,Tryz.ntmps210;go_wp2;go_ret;refine ⟨rfl,?_,zA _ _ _ _⟩;have h:=H.out;rw [HE.out];exact h.head (zA _ _ _ _) (zq h.hb _) rfl rfl rfl ⟨h.ok.lo,h.ok.hi,h.ok.lnow,h.ok.lsure,h.ok.lpend,h.ok.wnow,h.ok.wsure,h.ok.fuse0,h.ok.fuse1⟩
 ·have hd:d.dead=true:=by
   simp [Dev.stops] at hs;rcases hs with hs | hs
   ·exact hs
   ·exact absurd hs hx
  rw [hd] at c5;clear hs
  have fin:zY w B d.burnt:=by
   have h:=H.out;rw [HE.out];have:d={ d with dead:=true }:=by cases d;simp at hd;subst hd;rfl
   rw [<- this];exact h
  have FIN:=zf fin;clear fin hd;by_cases ho:d.on=true
  ·have hz:(d.fuse == 0)=false:=by simp;exact fun e=>hx ⟨ho,e⟩
   rw [ho] at c4;clear hx ho;go_enter Tryz.func210,Tryz.ntmps210;go_wp2;go_ret;exact ⟨rfl,FIN.out,Chg.refl _ _⟩
  ·have ho':d.on=false:=by simpa using ho
   rw [ho'] at c4;clear hx ho ho';go_enter Tryz.func210,Tryz.ntmps210;go_wp2;go_ret;exact ⟨rfl,FIN.out,Chg.refl _ _⟩
set_option maxRecDepth 100000 in
theorem zhq (w:World) (B:DB) (d:Dev) (h:zY w B d) (hs:d.stops=false):
  Calls Tryz.prog 210 #[B.ptr] w fun e w'=>e=.returned (.int .i64 0)∧zY w' B d.burnt∧Chg (·=B.b) w w':=by
 have c3:=h.c3;have c4:=h.c4;have c5:=h.c5;have f3:w.frozen? ⟨B.b,3,none⟩=false:=zk h.hb;have q0:=h.ok.fuse0;have q1:=h.ok.fuse1;have HOK:=zf h.ok.burnt;have H:=zf h;clear h;have e:d.burnt={ d with fuse:=if d.on then d.fuse - 1 else d.fuse }:=by simp [Dev.burnt,hs]
 have HE:=zf e;clear e;have hd:d.dead=false:=by simp [Dev.stops] at hs;exact hs.1
 rw [hd] at c5;unfold DB.ptr;by_cases ho:d.on=true
 ·have hz:(d.fuse == 0)=false:=by simp [Dev.stops,hd,ho] at hs;simpa using hs
  have hz':1<=d.fuse:=by simp at hz;omega
  rw [ho] at c4;have HO:=zf ho;clear hs ho hd;go_enter Tryz.func210,Tryz.ntmps210;go_wp2;go_ret;refine ⟨rfl,?_,zA _ _ _ _⟩;have h:=H.out;have hok:=HOK.out;have e2:d.burnt={ d with fuse:=d.fuse - 1 }:=by rw [HE.out,if_pos HO.out]
  rw [e2] at hok ⊢;exact h.head (zA _ _ _ _) (zq h.hb _) rfl rfl rfl hok
 ·have ho':d.on=false:=by simpa using ho
  rw [ho'] at c4
  have fin:zY w B d.burnt:=by
   have h:=H.out;rw [HE.out];have:d={ d with fuse:=if d.on then d.fuse - 1 else d.fuse }:=by cases d;simp at ho';subst ho';rfl
   rw [<- this];exact h
  have FIN:=zf fin;clear fin hd hs ho ho';go_enter Tryz.func210,Tryz.ntmps210;go_wp2;go_ret;exact ⟨rfl,FIN.out,Chg.refl _ _⟩
theorem Tryz.zero5 (w:World):(zeroValue 5).run Tryz.prog w=.ok (.int .u8 0) w:=by kernel_rfl
theorem Tryz.zero4 (w:World):(zeroValue 4).run Tryz.prog w=.ok (.bool false) w:=by kernel_rfl
theorem Tryz.size5:(Tryz.prog.info? 5).map (·.size)=some 1:=by kernel_rfl
theorem Zt {l:List (List UInt8)} (h:∀ s∈l,s.length=32):(YB l).length=32*l.length:=by unfold YB;rw [ZJ,yF h]
theorem zdg {l:List Bool} {k:Nat} (h:k < l.length):(xe l).toArray[k]? = some (.bool (l.getD k false)):=by
 simp [xe,zlz h]
theorem zht (l:List Bool) (k:Nat) (b:Bool):(xe l).toArray.setIfInBounds k (.bool b)=(xe (l.set k b)).toArray:=by
 simp [xe,List.map_set]
theorem zfe (l:List UInt8) (o:Nat) (s:List UInt8) (hs:s.length<=32) (ho:o+32<=l.length):
  splice (splice (zE l) o (xQ 32 (.int .u8 0))) o (zE s)=zE (l.take o++(pad s++l.drop (o+32))):=by
 have z:xQ 32 (Value.int .u8 0)=zE zdo:=by simp [xQ,zE,zdo];rfl
 rw [z];unfold splice zE;simp only [<- List.map_take,<- List.map_drop,<- List.map_append,zlD]
 congr 1
 have h1:(l.take o).length=o:=by simp;omega
 rw [List.take_append_of_le_length (by omega),List.take_of_length_le (by omega),xI]
 congr 1
 unfold pad;rw [List.append_assoc]
 congr 1
 rw [List.drop_append,h1,List.drop_of_length_le (by omega),List.nil_append,show o+s.length - o=s.length from by omega,List.drop_append,xI,
  show s.length - 32=0 from by omega,List.drop_zero]
 congr 1
 unfold zdo;rw [List.drop_replicate]
set_option maxRecDepth 100000 in
theorem ze4 (w:World) (B:DB) (d:Dev) (i:Int) (s:ByteArray) (h:zY w B d) (hd:d.dead=true):
  Calls Tryz.prog 141 #[B.ptr,.int .i64 i,.string s] w fun e w'=>e=.returned (.int .i64 20)∧w=w':=by
 have c5:=h.c5;rw [hd] at c5;clear h hd;unfold DB.ptr;go_enter Tryz.func141,Tryz.ntmps141;go_wp2;go_ret;exact ⟨rfl,rfl⟩
set_option maxRecDepth 100000 in
theorem zdt (w:World) (B:DB) (d:Dev) (i:Int) (s:ByteArray) (h:zY w B d) (hd:d.dead=false) (hi:i < 0∨B.n<=i):
  Calls Tryz.prog 141 #[B.ptr,.int .i64 i,.string s] w fun e w'=>e=.returned (.int .i64 5)∧w=w':=by
 have c0:=h.c0;have c5:=h.c5;rw [hd] at c5;have HI:=zf hi;clear h hd hi;unfold DB.ptr;go_enter Tryz.func141,Tryz.ntmps141;go_wp2_with fail;refine (zkm _ _ _ _ _ _ _ c0 HI.out).mono ?_;rintro e w' ⟨rfl,rfl⟩;go_wp2;go_ret;exact ⟨rfl,rfl⟩
set_option maxRecDepth 100000 in
theorem ze3 (w:World) (B:DB) (d:Dev) (i:Int) (s:ByteArray) (h:zY w B d) (hd:d.dead=false) (h0:0<=i) (h1:i < B.n) (hs:32 < s.size) (hm:s.size<=maxLen):
  Calls Tryz.prog 141 #[B.ptr,.int .i64 i,.string s] w fun e w'=>e=.returned (.int .i64 4)∧w=w':=by
 have c0:=h.c0;have c5:=h.c5;rw [hd] at c5;clear h hd;unfold maxLen at hm;unfold DB.ptr;go_enter Tryz.func141,Tryz.ntmps141;go_wp2_with fail;refine (zaJ _ _ _ _ _ _ _ c0 h0 h1).mono ?_;rintro e w' ⟨rfl,rfl⟩;go_wp2;go_ret;exact ⟨rfl,rfl⟩
set_option maxRecDepth 100000 in
theorem ze2 (w:World) (B:DB) (d:Dev) (i:Int) (s:ByteArray) (h:zY w B d) (hd:d.dead=false) (h0:0<=i) (h1:i < B.n) (hs:s.size<=32) (hst:d.stops=true):
  Calls Tryz.prog 141 #[B.ptr,.int .i64 i,.string s] w fun e w'=>e=.returned (.int .i64 20)∧zY w' B d.burnt∧Chg B.S w w':=by
 have c0:=h.c0;have c5:=h.c5;rw [hd] at c5;have H:=zf h;have HST:=zf hst;clear h hd hst;unfold DB.ptr;go_enter Tryz.func141,Tryz.ntmps141;go_wp2_with fail;refine (zaJ _ _ _ _ _ _ _ c0 h0 h1).mono ?_;rintro e w' ⟨rfl,rfl⟩;go_wp2_with fail;refine (zde _ B d H.out HST.out).mono ?_;rintro e w1 ⟨rfl,d1,k1⟩;have D1:=zf d1;have K1:=zf k1;clear d1 k1;go_wp2;go_ret;exact ⟨rfl,D1.out,K1.out.mono (fun k _ e=>.inl e)⟩
set_option maxRecDepth 100000 in
theorem zhM (w:World) (B:DB) (d:Dev) (k:Nat) (s:ByteArray) (h:zY w B d) (hd:d.dead=false) (h1:k < B.n) (hs:s.size<=32) (hst:d.stops=false):
  Calls Tryz.prog 141 #[B.ptr,.int .i64 k,.string s] w fun e w'=>e=.returned (.int .i64 0)∧zY w' B (d.burnt.put k s.data.toList)∧Chg B.S w w':=by
 have c0:=h.c0;have c5:=h.c5;have n65:=h.ok.hi;rw [hd] at c5;have H:=zf h;have HST:=zf hst;clear h hd hst;unfold DB.ptr;go_enter Tryz.func141,Tryz.ntmps141;go_wp2_with fail;refine (zaJ _ _ _ _ _ _ _ c0 (by omega) (by omega)).mono ?_;rintro e w' ⟨rfl,rfl⟩;go_wp2_with fail;refine (zhq _ B d H.out HST.out).mono ?_;rintro e w1 ⟨rfl,d1,k1⟩;clear c0 c5;have c0:=d1.c0;have D1:=zf d1;have K1:=zf k1;clear d1 k1;go_wp2_with (with_reducible refine XI rfl (.tmp 33) 23 rfl 5 Tryz.underlying23 (.int .u8 0) Tryz.zero5 rfl rfl B.bn _ 32 32 rfl (YB d.burnt.now) 202 D1.out.hn ?fit (by decide) ?next)
 case fit=>have:=D1.out.ok;rw [Zt this.wnow,this.lnow];omega
 case next=>
  intro w2 r2;have c0':w2.cell? ⟨B.b,0,none⟩=some (.slice (some ⟨B.bn,0,none⟩) B.n B.n):=zg (r2.chg.obj (fun e=>D1.out.n1 e) D1.out.hb) rfl;have R2:=zf r2;clear r2 c0;go_wp2_with (with_reducible refine xT rfl (.tmp 40) (.tmp 41) 23 9 rfl 5 Tryz.underlying23 Tryz.size5 B.bn _ 32 32 s rfl rfl _ 202 R2.out.row hs ?fit2 ?next2)
  case fit2=>
   have:=D1.out.ok;rw [length_splice _ _ _ (by rw [zdL,Zt this.wnow,this.lnow];omega),Zt this.wnow,this.lnow];omega
  case next2=>
   intro w3 r3;have c2:w3.cell? ⟨B.b,2,none⟩=some (.slice (some ⟨B.bp,0,none⟩) B.n B.n):=zg (r3.chg.obj (fun e=>D1.out.n1 e) (R2.out.chg.obj (fun e=>D1.out.n1 e) D1.out.hb)) rfl;have hp:w3.heap[B.bp]? = some (.cells (xe d.burnt.pend).toArray 4 (0,0)):=r3.chg.obj (fun e=>D1.out.n5 e.symm) (R2.out.chg.obj (fun e=>D1.out.n5 e.symm) D1.out.hp);have cp:w3.cell? ⟨B.bp,k,none⟩=some (.bool (d.burnt.pend.getD k false)):=zg hp (zdg (by rw [D1.out.ok.lpend];exact h1));have fp:w3.frozen? ⟨B.bp,k,none⟩=false:=zk hp;have HP:=zf hp;have R3:=zf r3;clear r3 hp c0';go_wp2;go_ret;have d1:=D1.out;have r2:=R2.out.chg;have r3:=R3.out.chg;have q:=zA w3 B.bp k (.bool true);refine ⟨rfl,⟨?_,?_,?_,?_,d1.ok.put _ _ hs,d1.n1,d1.n2,d1.n3,d1.n4,d1.n5,d1.n6⟩,?_⟩
   ·exact q.obj (fun e=>d1.n3 e) (r3.obj (fun e=>d1.n1 e) (r2.obj (fun e=>d1.n1 e) d1.hb))
   ·have e:=R3.out.row
    unfold YB at e;rw [zfe _ _ _ hs (by rw [yF d1.ok.wnow,d1.ok.lnow];omega),show k*32=32*k from by omega,<- zaK d1.ok.wnow (by rw [d1.ok.lnow];exact h1)] at e;exact q.obj (fun e=>d1.n5 e) e
   ·exact q.obj (fun e=>d1.n6 e) (r3.obj (fun e=>d1.n4 e.symm) (r2.obj (fun e=>d1.n4 e.symm) d1.hs))
   ·rw [zq HP.out,zht];rfl
   ·exact (K1.out.mono (fun k _ e=>.inl e)).trans (((r2.mono (fun k _ e=>.inr (.inl e))).trans (r3.mono (fun k _ e=>.inr (.inl e)))).trans (q.mono (fun k _ e=>.inr (.inr (.inr e)))))
theorem zao (w:World) (B:DB) (d:Dev) (i:Int) (s:ByteArray) (h:zY w B d) (hm:s.size<=maxLen):
  Calls Tryz.prog 141 #[B.ptr,.int .i64 i,.string s] w fun e w'=>e=.returned (.int .i64 (d.write i s.data.toList).2)∧zY w' B (d.write i s.data.toList).1∧Chg B.S w w':=by
 have ln:=h.ok.lnow;have hsz:s.data.toList.length=s.size:=by rw [Array.length_toList];rfl
 by_cases hd:d.dead=true
 ·refine (ze4 w B d i s h hd).mono ?_
  rintro e w' ⟨rfl,rfl⟩;have:d.write i s.data.toList=(d,20):=by simp [Dev.write,hd]
  rw [this];exact ⟨rfl,h,Chg.refl _ _⟩
 have hd:d.dead=false:=by simpa using hd
 by_cases hi:i < 0∨(B.n:Int)<=i
 ·refine (zdt w B d i s h hd hi).mono ?_
  rintro e w' ⟨rfl,rfl⟩;have:d.write i s.data.toList=(d,5):=by simp [Dev.write,hd,ln,hi]
  rw [this];exact ⟨rfl,h,Chg.refl _ _⟩
 by_cases hs:32 < s.size
 ·refine (ze3 w B d i s h hd (by omega) (by omega) hs hm).mono ?_
  rintro e w' ⟨rfl,rfl⟩;have:d.write i s.data.toList=(d,4):=by simp only [Dev.write,hd,ln,hsz,if_neg hi,if_pos hs];rfl
  rw [this];exact ⟨rfl,h,Chg.refl _ _⟩
 by_cases ht:d.stops=true
 ·refine (ze2 w B d i s h hd (by omega) (by omega) (by omega) ht).mono ?_
  have:d.write i s.data.toList=(d.burnt,20):=by simp only [Dev.write,hd,ln,hsz,if_neg hi,if_neg hs,if_pos ht];rfl
  rw [this];exact fun _ _ x=>x
 have ht':d.stops=false:=by simpa using ht
 obtain ⟨k,rfl⟩:=Int.eq_ofNat_of_zero_le (show 0<=i by omega);refine (zhM w B d k s h hd (by omega) (by omega) ht').mono ?_;have:d.write k s.data.toList=(d.burnt.put k s.data.toList,0):=by simp only [Dev.write,hd,ln,hsz,if_neg hi,if_neg hs,if_neg ht];rfl
 rw [this];exact fun _ _ x=>x
theorem Tryz.size71:(Tryz.prog.info? 202).map (·.size)=some 32:=by kernel_rfl
set_option maxRecDepth 100000 in
set_option maxRecDepth 100000 in
theorem zbb (w:World) (B:DB) (d:Dev) (h:zY w B d):
  Calls Tryz.prog 95 #[B.ptr] w fun e w'=>e=.returned (.tuple #[])∧zY w' B d.settle∧Chg B.S w w':=by
 have c0:=h.c0;have c1:=h.c1;have n65:=h.ok.hi;have n3:=h.ok.lo;have H:=zf h;clear h;unfold DB.ptr;go_enter Tryz.func95,Tryz.ntmps95;go_wp2;go_still_tail 8,(by kernel_rfl);have D:zY w.drew B d:=H.out.chg (Chg.refl (fun _=>False) w).drew (fun _ _ h=>h);have HD:=zf D;clear D;refine XZ rfl (.tmp 5) (.tmp 9) 151 151 rfl 202 Tryz.underlying151 32 Tryz.size71 B.bs 0 B.n B.n B.bn 0 B.n B.n rfl rfl (YB d.sure) (YB d.now) 202 202 (0,0) HD.out.hs HD.out.hn (xu _) ?f1 ?f2 ?next
 case f1=>rw [Zt H.out.ok.wsure,H.out.ok.lsure];have:Nat.min B.n B.n=B.n:=Nat.min_self _;rw [this];omega
 case f2=>rw [Zt H.out.ok.wnow,H.out.ok.lnow];have:Nat.min B.n B.n=B.n:=Nat.min_self _;rw [this];omega
 case next=>
  intro w1 r1
  have e:splice (YB d.sure) 0 (((YB d.now).drop 0).take (Nat.min B.n B.n*32))=YB d.now:=by
   have:Nat.min B.n B.n=B.n:=Nat.min_self _;have l1:=Zt H.out.ok.wnow;have l2:=Zt H.out.ok.wsure;rw [H.out.ok.lnow] at l1;rw [H.out.ok.lsure] at l2;rw [this,List.drop_zero,List.take_of_length_le (by omega)];unfold splice;rw [List.take_zero,List.nil_append,List.drop_of_length_le (by omega),List.append_nil]
  rw [e] at r1;have c2:w1.cell? ⟨B.b,2,none⟩=some (.slice (some ⟨B.bp,0,none⟩) B.n B.n):=zg (r1.chg.obj (fun e=>HD.out.n2 e) HD.out.hb) rfl;have hp:w1.heap[B.bp]? = some (.cells (xe d.pend).toArray 4 (0,0)):=r1.chg.obj (fun e=>HD.out.n6 e.symm) HD.out.hp;have HP:=zf hp;have R1:=zf r1;clear r1 hp e c0 c1;go_wp2_with (with_reducible refine XI rfl (.tmp 14) 97 rfl 4 Tryz.underlying97 (.bool false) Tryz.zero4 rfl rfl B.bp _ B.n B.n rfl (xe d.pend) 4 HP.out ?fit (by omega) ?next)
  case fit=>simp [xe,H.out.ok.lpend]
  case next=>
   intro w2 r2;have R2:=zf r2;clear r2;go_wp2;go_end0;have r2:=R2.out;have r1:=R1.out;have h:=HD.out;have k1:Chg B.S w w.drew:=(Chg.refl _ w).drew;refine ⟨rfl,⟨?_,?_,?_,?_,h.ok.settle,h.n1,h.n2,h.n3,h.n4,h.n5,h.n6⟩,?_⟩
   ·exact r2.chg.obj (fun e=>h.n3 e) (r1.chg.obj (fun e=>h.n2 e) h.hb)
   ·exact r2.chg.obj (fun e=>h.n5 e) (r1.chg.obj (fun e=>h.n4 e) h.hn)
   ·exact r2.chg.obj (fun e=>h.n6 e) r1.row
   ·have e:splice (xe d.pend) 0 (xQ B.n (.bool false))=xe d.settle.pend:=by
     have l1:=h.ok.lpend;unfold splice xQ;rw [List.take_zero,List.nil_append,List.drop_of_length_le (by simp [xe,l1]),List.append_nil];simp [xe,Dev.settle,l1]
    rw [<- e];exact r2.row
   ·exact k1.trans ((r1.chg.mono (fun k _ e=>.inr (.inr (.inl e)))).trans (r2.chg.mono (fun k _ e=>.inr (.inr (.inr e)))))
set_option maxRecDepth 100000 in
theorem zaU (w:World) (B:DB) (d:Dev) (h:zY w B d):
  Calls Tryz.prog 143 #[B.ptr] w fun e w'=>e=.returned (.int .i64 d.barrier.2)∧zY w' B d.barrier.1∧Chg B.S w w':=by
 have H:=zf h;clear h;unfold DB.ptr;by_cases hs:d.stops=true
 ·have HS:=zf hs
  have e:d.barrier=(d.burnt,20):=by simp [Dev.barrier,hs]
  rw [e];clear e hs;go_enter Tryz.func143,Tryz.ntmps143;go_wp2_with fail;refine (zde _ B d H.out HS.out).mono ?_;rintro e w1 ⟨rfl,d1,k1⟩;have D1:=zf d1;have K1:=zf k1;clear d1 k1;go_wp2;go_ret;exact ⟨rfl,D1.out,K1.out.mono (fun k _ e=>.inl e)⟩
 ·have hs:d.stops=false:=by simpa using hs
  have HS:=zf hs;have e:d.barrier=(d.burnt.settle,0):=by simp [Dev.barrier,hs]
  rw [e];clear e hs;go_enter Tryz.func143,Tryz.ntmps143;go_wp2_with fail;refine (zhq _ B d H.out HS.out).mono ?_;rintro e w1 ⟨rfl,d1,k1⟩;have D1:=zf d1;have K1:=zf k1;clear d1 k1;go_wp2_with fail;refine (zbb _ B _ D1.out).mono ?_;rintro e w2 ⟨rfl,d2,k2⟩;have D2:=zf d2;have K2:=zf k2;clear d2 k2;go_wp2;go_ret;exact ⟨rfl,D2.out,(K1.out.mono (fun k _ e=>.inl e)).trans K2.out⟩
set_option maxRecDepth 100000 in
theorem ziD (w:World) (B:DB) (d:Dev) (h:zY w B d):
  Calls Tryz.prog 139 #[B.ptr] w fun e w'=>e=.returned (.bool d.dead)∧w=w':=by
 have c5:=h.c5;clear h;unfold DB.ptr;go_enter Tryz.func139,Tryz.ntmps139;go_wp2;go_ret;exact ⟨rfl,rfl⟩
theorem zgl {w:World} {g:Nat} {l:List (List UInt8)} {t:TypeId} {fz:Nat × Nat} (hg:w.heap[g]? = some (.cells (YB l).toArray t fz)) (h:∀ s∈l,s.length=32) {k:Nat} (hk:k < l.length) {i:Nat} (hi:i < 32):
  w.cell? ⟨g,k*32+i,none⟩=some (.int .u8 (((l.getD k []).map fun c=>(c.toNat:Int)).getD i 0)):=by
 refine zg hg ?_;have hl:=yy h hk;have e:=zaL h hk
 have hx:(YB l)[k*32+i]? = ((zE (l.getD k []))[i]?):=by
  rw [e];unfold YB zE;rw [zlK,zlK,List.getElem?_take,if_pos hi,List.getElem?_drop,show 32*k+i=k*32+i from by omega]
 rw [zlu,hx];have hi':i < (l.getD k []).length:=by omega
 generalize l.getD k []=x at *;unfold zE yL;rw [zlK,zlF,zlK,zlz hi'];rfl
set_option maxRecDepth 100000 in
theorem zgB (w:World) (B:DB) (d:Dev) (k:Nat) (h:zY w B d) (hk:k < B.n):
  Calls Tryz.prog 135 #[B.ptr,.int .i64 k] w fun e w'=>e=.returned (.string ⟨(d.now.getD k []).toArray⟩)∧w=w':=by
 have c0:=h.c0;have n65:=h.ok.hi
 have hcv:=run_convert_bytes_arg (P:=Tryz.prog) w 23 5 Tryz.underlying23 Tryz.underlying5 B.bn (k*32) 32 32 ((d.now.getD k []).map fun c=>(c.toNat:Int)) (by rw [zlD];exact yy h.ok.wnow (by rw [h.ok.lnow];exact hk))
  (fun i hi=>zgl h.hn h.ok.wnow (by rw [h.ok.lnow];exact hk) hi) 9 Tryz.underlying9
 rw [ZA] at hcv;clear h;unfold DB.ptr;go_enter Tryz.func135,Tryz.ntmps135;go_wp2_with fail;refine (zaJ _ _ _ _ _ _ _ c0 (by omega) (by omega)).mono ?_;rintro e w' ⟨rfl,rfl⟩;go_wp2;go_ret;exact ⟨rfl,rfl⟩
end Go.Proofs.YtcilaocknhphnaaGreat
