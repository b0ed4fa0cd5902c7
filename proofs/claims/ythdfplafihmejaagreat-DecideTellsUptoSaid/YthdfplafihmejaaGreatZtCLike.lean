/-
  The reference's Sub, Swap, Counts, Use; its row, Place. The reference's Find. The reference's All. What the arguments' readings say, in the words of the walks: rules, steps. Reach: what the laws of many layers lean on. What reach.Leads tells, in plain Lean. word.Find. Package cert: delegate, like. A variable of many cells, written whole; a set of one word.
-/
import Derived.Test.YthdfplafihmejaaGreatZtRBase
import Derived.Test.YthdfplafihmejaaGreatZtCMap
import Derived.Test.YthdfplafihmejaaGreatZtKit2
import Derived.Test.YthdfplafihmejaaGreatZtRRow
import Derived.Test.YthdfplafihmejaaGreatZtRTell1
import Derived.Lib.SmallJoins
import Derived.SizedLaws
import Derived.Test.YthdfplafihmejaaGreatZtCSort
namespace Go.Proofs.YthdfplafihmejaaGreat
open Go.RowKit Go.Maps
def ziY (s:ByteArray) (a:Int) (n:Nat):Prop:=0<=a∧a+n<=zz s.data.toList
instance (s:ByteArray) (a:Int) (n:Nat):Decidable (ziY s a n):=by unfold ziY;infer_instance
def zp0 (s:ByteArray) (a:Int) (n:Nat):Value:=if ziY s a n then .tuple #[.string (bar ((s.data.toList.drop (2*a.toNat)).take (2*n))),.int .i64 0] else .tuple #[.string ⟨#[]⟩,.int .i64 5]
def zqv (o:Option Wd):Value:=match o with
 | none=>.tuple #[.string ⟨#[]⟩,.bool false]
 | some u=>.tuple #[.string (bar u),.bool true]
def xt (R:List zF):Prop:=∀ r∈R,r.1.size<=140737488355328∧r.2.size<=140737488355328
def zbI (l:List Wd) (w:Wd) (a i:Nat):List Nat:=(List.range i).filter fun t=>YN (l.getD t []) w a
def yU (R:List Rul) (u:Wd) (a k:Nat):List ((Nat × Nat) × Wd):=(xG (yW R) u a++(zbI (yW R) u a k).map fun t=>(a,t)).map fun h=>(h,zeY R u h)
def xD (R:List Rul) (b i:Nat) (r:List Ent) (u:Wd) (a k:Nat):Option (List Ent):=ZQ b i (yU R u a k) r
def zcN (r:List Ent):List Value:=r.map fun e=>.int .i64 e.2.1
def zd9 (r:List Ent):List Value:=yq (r.map fun e=>e.2.2)
structure zb2 (w:World) (base b:Nat) (lv fv bv:Value) (r1 r2 r3:List Ent):Prop where
 hb:w.heap[b]? = some (.cells #[lv,fv,bv] 111 (0,0))
 hl:w.ownsRow base 57 1 lv r1.length (yX r1)
 hf:w.ownsRow base 3 1 fv r2.length (zcN r2)
 hs:w.ownsRow base 153 2 bv r3.length (zd9 r3)
 bb:base<=b
theorem xF {w:World} {base:Nat} {e t:TypeId} {size n k:Nat} {xs:List Value} {v:Value} {cs:Array Value} {fz:Nat × Nat} (h:w.ownsRow base e size v n xs) (hk:v.ownBlock=some k) (ho:w.heap[k]? = some (.cells cs t fz)):t=e:=by
 obtain ⟨cs',h'⟩:=zC h hk;rw [ho] at h';cases h';rfl
def zqJ (w:World) (base b:Nat) (r:List Ent):Prop:=∃ lv fv bv,zb2 w base b lv fv bv r r r
def Xo (r:List Ent) (u:Wd):Int:=if u∈zv r then ((zv r).idxOf u:Nat) else -1
def ziZ (w:World) (k:Int) (e:Ending) (w':World):Prop:=e=.returned (.tuple #[.pointer none,.int .i64 k])∧Chg (fun _=>False) w w'
def zjN (w:World) (r:List Ent) (e:Ending) (w':World):Prop:=∃ b,e=.returned (.tuple #[.pointer (some ⟨b,0,none⟩),.int .i64 0])∧zqJ w' w.heap.size b r∧Chg (fun _=>False) w w'
def zpV (w:World) (o:Option (List Ent)) (e:Ending) (w':World):Prop:=(∀ r,o=some r->zjN w r e w')∧(o=none->ziZ w 12 e w')
structure znj (w:World) (R:List Rul) (s:Wd) (bnd b i:Nat) (r:List Ent) (W:World):Prop where
 row:zqJ W w.heap.size b r
 goes:zbN R s bnd=xP R bnd (bnd - i) i r
 le:i<=bnd
 len:r.length<=bnd
 nd:(zv r).Nodup
 may:∀ u∈zv r,Zp u=true
 chg:Chg (fun _=>False) w W
structure FIn (w:World) (R:List Rul) (bnd b i:Nat) (r0:List Ent) (a k:Nat) (r:List Ent) (W:World):Prop where
 row:zqJ W w.heap.size b r
 pre:xD R bnd i r0 (zS r0 i) a k=some r
 chg:Chg (fun _=>False) w W
theorem Tryz.sizeSteps:(Tryz.prog.info? 81).map (·.size)=some 1:=by kernel_rfl
theorem zl8 (w:World) (k:Nat) (z:Int) (hz:z=k) (x:ByteArray) (hk:k < 65536) (hx:(⟨(Zg [k]).toArray⟩:ByteArray)=x):Calls Tryz.prog 30 #[.slice (some ⟨w.heap.size,0,none⟩) 1 1] (w.alloc (.cells #[.int .u16 z] 62)) fun e w'=>e=.returned (.string x)∧Chg (fun _=>False) w w':=by
 subst hz;have e1:(w.alloc (.cells #[.int .u16 (k:Int)] 62)).cell? ⟨w.heap.size,0,none⟩=some (.int .u16 (k:Int)):=zf (zh _ _) rfl
 have:=zf2 (w.alloc (.cells #[.int .u16 (k:Int)] 62)) (some ⟨w.heap.size,0,none⟩) 1 [k] (by simp) (by simp) (fun j x hj=>by
  rcases j with _ | j
  ·simp at hj;subst hj;exact ⟨hk,_,_,rfl,e1⟩
  ·simp at hj)
 rw [hx] at this;exact this.mono fun e w' ⟨he,hc⟩=>⟨he,(zi _ w _).trans hc⟩
open Go.ChangeShapes Go.WideShapes Go.ChangeAt
structure zjK (w:World) (v:Value) (R:List zF):Prop where
 at_:zX w v (· < w.heap.size) R
 nil:∀ n c,v=.slice none n c->n=0∧c=0
def zjJ (R:List zF):Prop:=xt R∧R.length*32<=140737488355328
structure zqA (w:World) (v:Value) (L:List (Int × Int)):Prop where
 at_:Yl w v (· < w.heap.size) L
 fit:∀ x∈L,-9223372036854775808<=x.1∧x.1<=9223372036854775807
theorem zbC {H:Type} {P:Program} {e:TypeId}:∀ {l:List (DataW H)} {d:DataW H},d∈l->∀ n∈d.weights P e,n∈DataW.weightsAll P e l
 | a :: l,d,h,n,hn=>by
  simp only [DataW.weightsAll,zrc];rcases List.mem_cons.1 h with rfl | h
  ·exact .inl hn
  ·exact .inr (zbC h n hn)
theorem zb6 {P:Program} {W:World} {H:Type} {enc:TypeId × Value->H} {t:TypeId} {f0 f1:Field} {fuel:Nat} {cs:List Value} {x:DataW H × List MemPlace} {base:Nat} {spare:Nat->Bool} {held:Bool} (ht:P.underlying t=some (.struct #[f0,f1])) (h:DataW.trod enc P W base spare held fuel t cs=some x):
  ∃ y0 y1 n,x.1=.agg [y0.1,y1.1]∧cs.length=P.cellsOf t∧DataW.trod enc P W base spare held n f0.type ((cs.drop f0.offset).take (P.cellsOf f0.type))=some y0∧DataW.trod enc P W base spare held n f1.type ((cs.drop f1.offset).take (P.cellsOf f1.type))=some y1:=by
 obtain ⟨xs,n,_,rfl,hl,hlen,hf⟩:=DataW.trod_struct ht h
 match xs,hlen with
 | [y0,y1],_=>exact ⟨y0,y1,n,rfl,hl,by simpa using hf 0 f0 rfl,by simpa using hf 1 f1 rfl⟩
theorem Tryz.cellsInt:Tryz.prog.cellsOf 3=1:=by kernel_rfl
theorem Tryz.cellsWord:Tryz.prog.cellsOf 57=1:=by kernel_rfl
theorem Tryz.cellsRule:Tryz.prog.cellsOf 66=2:=by kernel_rfl
theorem Tryz.cellsStep:Tryz.prog.cellsOf 153=2:=by kernel_rfl
theorem Tryz.bytesRule:Tryz.prog.bytesOf 66=32:=by kernel_rfl
set_option maxRecDepth 100000 in
theorem zo9 {W:World} {H:Type} {enc:TypeId × Value->H} {fuel:Nat} {cs:List Value} {x:DataW H × List MemPlace} (h:DataW.trod enc Tryz.prog W 0 (fun _=>true) true fuel 66 cs=some x):
  ∃ r:zF,cs=[.string r.1,.string r.2]∧r.1.size<=maxLen∧r.2.size<=maxLen∧x.1=.agg [.lit (.string r.1.data.toList),.lit (.string r.2.data.toList)]:=by
 obtain ⟨y0,y1,n,e,hl,t0,t1⟩:=zb6 Tryz.underlying66 h;rw [Tryz.cellsRule] at hl
 match cs,hl with
 | [c0,c1],_=>
  simp only [Tryz.cellsWord,List.drop_zero,List.drop_succ_cons,List.take_succ_cons,List.take_zero] at t0 t1;obtain ⟨s,e0,f0,hs⟩:=DataW.trod_string Tryz.underlying57 t0;obtain ⟨u,e1,f1,hu⟩:=DataW.trod_string Tryz.underlying57 t1;simp at e0 e1;subst e0 e1 f0 f1;exact ⟨(s,u),rfl,hs,hu,e⟩
theorem zib {W:World} {H:Type} {enc:TypeId × Value->H} {a:Option Addr} {n c:Nat} {d:DataW H} {ps:List MemPlace}
  (h:DataW.Trod enc Tryz.prog W 0 (fun _=>true) true 22 (.slice a n c) d ps):∃ l,zjK W (.slice a n c) l∧((∀ x∈d.weights Tryz.prog 22,x<=reachBytes)->zjJ l):=by
 obtain ⟨fuel,hf⟩:=h;have hf':DataW.trod enc Tryz.prog W 0 (fun _=>true) true fuel 22 [.slice a n c]=some (d,ps):=hf;rcases Deep.open_slice Tryz.underlying22 hf' with ⟨hcs,_⟩ | ⟨x,len,cap,m,k,D,Pl,hcs,_,hl,hm,hmm,hd,hel⟩
 ·simp at hcs
  obtain ⟨rfl,rfl,rfl⟩:=hcs;exact ⟨[],⟨⟨none,0,rfl,by simp,fun j x hj=>by simp at hj⟩,fun n c e=>by cases e;exact ⟨rfl,rfl⟩⟩,fun _=>⟨(fun r hr=>by cases hr),by simp⟩⟩
 ·simp at hcs
  obtain ⟨rfl,rfl,rfl⟩:=hcs;simp at hmm;obtain rfl:c=m:=hmm.symm;rw [Tryz.cellsRule] at hel
  have hv:∀ i,i < c->∃ v:zF,W.cells? 0 (x.add (i*2)) 2=some [.string v.1,.string v.2]∧v.1.size<=maxLen∧v.2.size<=maxLen∧D i=.agg [.lit (.string v.1.data.toList),.lit (.string v.2.data.toList)]:=by
   intro i hi;obtain ⟨cs,h1,h2⟩:=hel i hi;obtain ⟨v,rfl,q⟩:=zo9 h2;exact ⟨v,h1,q⟩
  have:Inhabited zF:=⟨(ByteArray.empty,ByteArray.empty)⟩;obtain ⟨f,hf2⟩:=Deep.choose_lt hv
  have key:∀ (j:Nat) y,((List.range n).map f)[j]? = some y->j < n∧y=f j:=fun j y hj=>by
   rw [zrb] at hj
   have hjn:j < n:=by
    rcases Nat.lt_or_ge j n with h | h
    ·exact h
    ·rw [zrg (by simpa using h)] at hj;simp at hj
   rw [List.getElem?_range hjn] at hj;simp at hj;exact ⟨hjn,hj.symm⟩
  refine ⟨(List.range n).map f,⟨⟨some x,c,by simp,by simp;omega,fun j y hj=>?_⟩,fun n c e=>by cases e⟩,fun hw=>?_⟩
  ·obtain ⟨hjn,rfl⟩:=key j y hj
   obtain ⟨h1,h2,h3,_⟩:=hf2 j (by omega);have g:=(World.cells?_some h1).2.2;have g0:=(World.cells?_some (hf2 0 (by omega)).1).2.2 0 (by decide);obtain ⟨b,off,spot⟩:=x;have hs:spot=none:=by simpa [Addr.add] using World.cell?_spot g0
   subst hs;simp only [yN] at g;have c0:=g 0 (by decide);have c1:=g 1 (by decide);exact ⟨b,off,rfl,World.block_lt_of_cell? W _ c0,c0,c1,h2,h3⟩
  ·have hd2:d=.slice ((List.range n).map D) ((List.range (c - n)).map fun j=>D (n+j)):=congrArg Prod.fst hd
   subst hd2;simp only [DataW.weights,Tryz.underlying22,List.mem_cons,zrc] at hw;have hr:=reachBytes_lt;refine ⟨fun r hr=>?_,?_⟩
   ·obtain ⟨j,hj⟩:=List.mem_iff_getElem?.1 hr
    obtain ⟨hjn,rfl⟩:=key j r hj;obtain ⟨_,_,_,hD⟩:=hf2 j (by omega);have hm:D j∈(List.range n).map D:=List.mem_map.2 ⟨j,List.mem_range.2 hjn,rfl⟩;have hw2:=fun x hx=>hw x (.inr (.inl (zbC hm x hx)));rw [hD] at hw2;simp only [DataW.weights,Tryz.underlying66] at hw2;have q1:=hw2 (f j).1.data.toList.length (by simp [DataW.weightsEach,DataW.weights]);have q2:=hw2 (f j).2.data.toList.length (by simp [DataW.weightsEach,DataW.weights]);rw [zA] at q1 q2;omega
   ·have:=hw _ (.inl rfl)
    rw [Tryz.bytesRule] at this;simp at this ⊢;have h2:n*32<=(n+(c - n))*32:=Nat.mul_le_mul_right _ (by omega);omega
theorem zje (r:List Ent):yX r=zK ((zv r).map bar):=by unfold yX zK zv;rw [List.map_map,List.map_map];rfl
theorem zjT {r:List Ent} {k:Nat} (hk:k < r.length):(zv r)[k]? = some (zS r k):=by
 unfold zv zS;rw [zrb,zq6,zq0 hk];rfl
theorem zjU {r:List Ent} {t:Wd} (h:t∈zv r):(zv r).idxOf t < r.length∧zS r ((zv r).idxOf t)=t:=by
 have hl:(zv r).idxOf t < (zv r).length:=List.idxOf_lt_length_of_mem h;refine ⟨by rw [<- Zm];exact hl,?_⟩;have h1:=zjT (r:=r) (k:=(zv r).idxOf t) (by rw [<- Zm];exact hl);rw [zq0 hl,List.getElem_idxOf hl] at h1;exact (Option.some.inj h1).symm
theorem zoY {u:Wd} (h:Zp u=true):(bar u).size<=16:=(Zn (a:=bar u) (by rw [yB];exact h)).1
def zeT (R:List zF) (s:ByteArray) (b:Int):List Ent:=(zdz R s b).getD []
def Xz (R:List zF) (s:ByteArray) (b:Int):List ByteArray:=if zH R s b=0 then (zv (zeT R s b)).map bar else []
def ziX (w:World) (k:Int) (L:List ByteArray) (e:Ending) (w':World):Prop:=∃ va,e=.returned (.tuple #[va,.int .i64 k])∧zx w' va (fun x=>w.heap.size<=x∧x < w'.heap.size) L∧Chg (fun _=>False) w w'
theorem zdP (w:World) (G:Nat->Prop):zx w (.slice none 0 0) G []:=⟨none,0,rfl,by simp,fun j x hj=>by simp at hj⟩
theorem zdO {w:World} {base:Nat} {v:Value} {r:List Ent} (h:w.ownsRow base 57 1 v r.length (yX r)) (hs:∀ u∈zv r,(bar u).size<=400):zx w v (fun x=>base<=x∧x < w.heap.size) ((zv r).map bar):=by
 have h2:w.ownsRow base 57 1 v ((zv r).map bar).length (zK ((zv r).map bar)):=by rw [zq4,Zm,<- zje];exact h
 obtain ⟨a,cap,rfl,h3,h4⟩:=XY h2;refine ⟨a,cap,rfl,h3,fun j x hj=>?_⟩;obtain ⟨g,rfl,hg,c⟩:=h4 j (.string x) (by unfold zK;rw [zrb,hj];rfl);refine ⟨g,0,rfl,⟨hg,World.block_lt_of_cell? w _ c⟩,by rw [Nat.zero_add];exact c,?_⟩;have hx:=zq2 hj;rw [List.mem_map] at hx;obtain ⟨u,hu,rfl⟩:=hx;have:=hs u hu;unfold maxLen;omega
theorem zcf {R:List zF} {s:ByteArray} {b:Int} {r:List Ent} (h:zH R s b=0) (hr:zdz R s b=some r):(∀ u∈zv r,Zp u=true∧(bar u).size<=16)∧r.length<=5000∧1<=b:=by
 obtain ⟨hask,_⟩:=Zb h;obtain ⟨m1,m2,m3,m4⟩:=ZE hask;obtain ⟨s1,s2,s3⟩:=XG (by omega) hr;exact ⟨fun u hu=>⟨(zg3 m1 ((s3 u).1 hu)).1,zoY (zg3 m1 ((s3 u).1 hu)).1⟩,by omega,m2⟩
section
variable {w:World} {v:Value} {R:List zF} {s:ByteArray} {b:Int}
theorem zhG (hA:zbA w v R s):Calls Tryz.prog 121 #[v,.string s,.int .i64 b] w (ziX w (zH R s b) (Xz R s b)):=by
 by_cases h:zH R s b=0
 ·obtain ⟨_,r,hr⟩:=Zb h
  refine (zm2 hA h hr).mono fun e w' ⟨va,he,ho,hc⟩=>⟨va,by rw [h];exact he,?_,hc⟩;unfold Xz zeT;rw [if_pos h,hr];exact zdO ho (fun u hu=>by have:=((zcf h hr).1 u hu).2;omega)
 ·refine (ziV hA rfl h).mono fun e w' ⟨he,hc⟩=>⟨_,he,?_,hc⟩
  unfold Xz;rw [if_neg h];exact zdP _ _
end
theorem zx.imp {w:World} {v:Value} {G G':Nat->Prop} {l:List ByteArray} (h:zx w v G l) (hg:∀ k,G k->G' k):zx w v G' l:=by
 obtain ⟨la,cap,h1,h2,h3⟩:=h;exact ⟨la,cap,h1,h2,fun j r hj=>by obtain ⟨lb,lo,q1,q2,q3⟩:=h3 j r hj;exact ⟨lb,lo,q1,hg _ q2,q3⟩⟩
def zD (L:List zF):List Value:=L.flatMap fun r=>[.string r.1,.string r.2]
theorem yt (L:List zF):(zD L).length=L.length*2:=by
 unfold zD;induction L with
 | nil=>rfl
 | cons a t ih=>rw [List.flatMap_cons,zq3,ih];simp;omega
theorem yQ (L M:List zF):zD (L++M)=zD L++zD M:=by unfold zD;rw [List.flatMap_append]
theorem YO (L:List zF):∀ v∈zD L,v.oneCell'=true:=by
 intro v hv;unfold zD at hv;rw [List.mem_flatMap] at hv;obtain ⟨r,_,h⟩:=hv;simp at h;rcases h with rfl | rfl <;> rfl
theorem xW:∀ (L:List zF) (k:Nat) r,L[k]? = some r->(zD L)[k*2]? = some (.string r.1)∧(zD L)[k*2+1]? = some (.string r.2)
 | [],k,r,h=>by simp at h
 | a :: t,0,r,h=>by
  simp at h;subst h;unfold zD;rw [List.flatMap_cons];exact ⟨rfl,rfl⟩
 | a :: t,k+1,r,h=>by
  obtain ⟨h1,h2⟩:=xW t k r (by simpa using h);have e:zD (a :: t)=[.string a.1,.string a.2]++zD t:=by unfold zD;rw [List.flatMap_cons]
  rw [e];refine ⟨?_,?_⟩
  ·rw [List.getElem?_append_right (by simp;omega)];simpa [show (k+1)*2 - 2=k*2 by omega] using h1
  ·rw [List.getElem?_append_right (by simp;omega)];simpa [show (k+1)*2+1 - 2=k*2+1 by omega] using h2
theorem zgV {L:List zF} {j:Nat} {u:Value} (h:(zD L)[j]? = some u):∃ k r,L[k]? = some r∧(j=k*2∧u=.string r.1∨j=k*2+1∧u=.string r.2):=by
 have hl:=(zq1.1 h).1;rw [yt] at hl;have hk:j / 2 < L.length:=by omega
 refine ⟨j / 2,L[j / 2],zq0 hk,?_⟩;obtain ⟨h1,h2⟩:=xW L (j / 2) _ (zq0 hk);rcases Nat.mod_two_eq_zero_or_one j with q | q
 ·rw [show j / 2*2=j by omega,h] at h1
  exact .inl ⟨by omega,Option.some.inj h1⟩
 ·rw [show j / 2*2+1=j by omega,h] at h2
  exact .inr ⟨by omega,Option.some.inj h2⟩
theorem ZT {w:World} {base:Nat} {v:Value} {L:List zF} (h:w.ownsRow base 66 2 v L.length (zD L)) (hs:∀ r∈L,r.1.size<=maxLen∧r.2.size<=maxLen):zX w v (· < w.heap.size) L:=by
 have h0:=h;obtain ⟨h1,⟨rfl,h2⟩ | ⟨g,cap,cur,rfl,hg,hh,q1,q2,q3,q4⟩⟩:=h
 ·refine ⟨none,0,by rw [h2],by rw [h2];unfold maxLen;omega,fun j x hj=>?_⟩
  have:j < L.length:=(zq1.1 hj).1;omega
 ·refine ⟨_,cap,rfl,by omega,fun j x hj=>?_⟩
  have hj':j < L.length:=(zq1.1 hj).1;obtain ⟨c1,c2⟩:=xW L j x hj;obtain ⟨z1,z2⟩:=hs x (zq2 hj);refine ⟨g,0,rfl,zr hh,?_,?_,z1,z2⟩
  ·rw [Nat.zero_add,h0.cellAt (j:=j*2) (by omega)];exact c1
  ·rw [Nat.zero_add,h0.cellAt (j:=j*2+1) (by omega)];exact c2
theorem zaV {w:World} {la:Option Addr} {n cap:Nat} {G:Nat->Prop} {R:List zF} (h:zX w (.slice la n cap) G R):∀ (j:Nat) u,(zD R)[j]? = some u->∃ g o,la=some ⟨g,o,none⟩∧w.cell? ⟨g,o+j,none⟩=some u:=by
 obtain ⟨la',cap',e,_,hc⟩:=h;cases e;intro j u hj;obtain ⟨k,r,hk,q⟩:=zgV hj;obtain ⟨lb,lo,e1,_,c0,c1,_⟩:=hc k r hk;refine ⟨lb,lo,e1,?_⟩;rcases q with ⟨rfl,rfl⟩ | ⟨rfl,rfl⟩
 ·exact c0
 ·rw [<- Nat.add_assoc];exact c1
theorem Tryz.elemRule:Zt Tryz.prog 66 2 32:=Zj (z:=.agg #[.string ⟨#[]⟩,.string ⟨#[]⟩]) (by kernel_rfl) rfl (by decide)
def Xk (R:List zF) (s t:ByteArray) (b:Int):Bool:=if zH R s b=0 then decide (t.data.toList∈zv (zeT R s b)) else false
set_option maxRecDepth 100000 in
theorem zjA (w:World) (s v:ByteArray) (i:Nat) (hs:s.size<=1000000) (hv:v.size<=1000000) (hv2:v.size % 2=0) (hv0:0 < v.size) (hi:i<=1000000):
  Calls Tryz.prog 129 #[.string s,.string v,.int .i64 i] w fun e w'=>e=.returned (.int .i64 (xH s.data.toList v.data.toList i))∧w=w':=by
 have O1:=ze (zfR w v (by unfold maxLen;omega) hv2);have L1:=ze (ZO w s (by unfold maxLen;omega));have L2:=ze (ZO w v (by unfold maxLen;omega));have hN:2*zz s.data.toList<=s.size∧s.size<=2*zz s.data.toList+1:=by unfold zz;rw [zA];omega
 have hM:v.size<=2*zz v.data.toList∧2*zz v.data.toList<=v.size:=by unfold zz;rw [zA];omega
 have NO:=ze (fun k=>@zjB s.data.toList v.data.toList k);have HIT:=ze (fun k=>@zhs s.data.toList v.data.toList k);have NXT:=ze (fun k=>@zfD s.data.toList v.data.toList k);have CUT:=ze (fun k=>zom s v k);generalize zz s.data.toList=N at *;generalize zz v.data.toList=M at *;have g1:((M:Int) == 0)=false:=by rw [zq9];omega
 have g2:max (i:Int) 0=(i:Int):=by omega
 go_enter Tryz.func129,Tryz.ntmps129;go_wp2_with fail;refine (O1.out).mono ?_;rintro e w' ⟨rfl,rfl⟩;go_wp2_with fail;refine (L2.out).mono ?_;rintro e w' ⟨rfl,rfl⟩;go_wp2;go_loop [7] (fun iv=>∃ k:Nat,k<=i+N+1∧iv=.int .i64 k∧Hid (xH s.data.toList v.data.toList i=xH s.data.toList v.data.toList k)) (fun iv=>i+N+2 - (intOf iv).toNat)
 case atStart=>exact ⟨i,by omega,rfl,ze rfl⟩
 case round=>
  obtain ⟨k,hk,rfl,HE⟩:=hrel;by_cases hlt:k+M<=N
  ·have g3:decide ((k:Int)<=(N:Int) - (M:Int))=true:=by rw [decide_eq_true_eq];omega
   have b1:2*(k:Int)+(v.size:Int)<=(s.size:Int):=by omega
   have cu:=CUT.out k;by_cases he:(s.data.toList.drop (2*k)).take v.data.toList.length=v.data.toList
   ·have R:=ze (HE.out.trans (HIT.out k hlt he))
    rw [zqY he] at cu;clear he;go_wp2_with fail;refine (L1.out).mono ?_;rintro e w' ⟨rfl,rfl⟩;go_wp2_with fail;refine (L2.out).mono ?_;rintro e w' ⟨rfl,rfl⟩;go_wp2;go_ret;exact ⟨by rw [R.out];rfl,rfl⟩
   ·have R:=ze (HE.out.trans (NXT.out k hlt he))
    rw [zqZ he] at cu;clear he;go_wp2_with fail;refine (L1.out).mono ?_;rintro e w' ⟨rfl,rfl⟩;go_wp2_with fail;refine (L2.out).mono ?_;rintro e w' ⟨rfl,rfl⟩;go_wp2;go_round
    case rel=>exact ⟨k+1,by omega,by go_num,R⟩
    case measure=>simp [intOf];omega
  ·have g3:decide ((k:Int)<=(N:Int) - (M:Int))=false:=by rw [decide_eq_false_iff_not];omega
   have R:=ze (HE.out.trans (NO.out k (by omega)));go_wp2_with fail;refine (L1.out).mono ?_;rintro e w' ⟨rfl,rfl⟩;go_wp2_with fail;refine (L2.out).mono ?_;rintro e w' ⟨rfl,rfl⟩;go_wp2;go_ret;exact ⟨by rw [R.out];rfl,rfl⟩
structure YI (w:World) (sv:Value) (G:Nat->Prop) (c:zq):Prop where
 set:xf w sv G c.fr
 sp:c.sp.size<=maxLen
 sg:c.sg < 65536
theorem YI.chg {S:Nat->Prop} {w w':World} {sv:Value} {G:Nat->Prop} {c:zq} (h:YI w sv G c) (hc:Chg S w w') (hs:∀ k,G k->¬ S k):YI w' sv G c:=⟨h.set.chg hc hs,h.sp,h.sg⟩
def xI (c:zq) (sv:Value):Value:=.agg #[.int .i64 c.kind,.int .u16 (c.sg:Int),.string c.sp,sv,.int .i64 c.f,.int .i64 c.t,.int .i64 c.n]
theorem zqH (w:World) (a:Nat):Yr (w.alloc (.cells #[.int .i64 ((a:Nat):Int)] 3)) (.slice (some ⟨w.heap.size,0,none⟩) 1 1) (fun k=>k=w.heap.size) (zgd [a]):=zcY w [((a:Nat):Int)] _ (by simp)
theorem zqG (w:World) (a b:Nat):Yr (w.alloc (.cells #[.int .i64 ((a:Nat):Int),.int .i64 ((b:Nat):Int)] 3)) (.slice (some ⟨w.heap.size,0,none⟩) 2 2) (fun k=>k=w.heap.size) (zgd [a,b]):=zcY w [((a:Nat):Int),((b:Nat):Int)] _ (by simp)
theorem zlp (sp:ByteArray):(XU sp).data.toList=yi sp.data.toList 0 1 [0,1]:=by unfold XU;simp
theorem zmY:(ZW 1).data.toList=[0,1]:=by decide +kernel
theorem zi6 {sp:ByteArray} (h:Zp sp.data.toList=true):Zp (XU sp).data.toList=true:=by
 rw [zlp];obtain ⟨h1,h2,h3,h4⟩:=(Zh _).1 h;have hl:sp.data.toList.length=2*zz sp.data.toList:=by unfold zz;omega
 have e:yi sp.data.toList 0 1 [0,1]=[0,1]++sp.data.toList.drop 2:=by unfold yi;simp
 have el:(yi sp.data.toList 0 1 [0,1]).length=sp.data.toList.length:=by
  rw [e,zq3,List.length_drop];simp only [List.length_cons,List.length_nil];omega
 have ea:zz (yi sp.data.toList 0 1 [0,1])=zz sp.data.toList:=by unfold zz;rw [el]
 refine (Zh _).2 ⟨by rw [el];exact h1,by rw [ea];exact h2,by rw [ea];exact h3,fun i hi=>?_⟩;rw [ea] at hi;cases i with
 | zero=>
  rw [e];unfold zO;simp
 | succ i=>
  have:=h4 (i+1) hi;unfold zO at this ⊢;rw [e]
  have g:∀ j,2<=j->([0,1]++sp.data.toList.drop 2:List UInt8).getD j 0=sp.data.toList.getD j 0:=fun j hj=>by
   rw [zq6,zq6,List.getElem?_append_right (by simpa using hj)];simp
   congr 2
   omega
  rw [g _ (by omega),g _ (by omega)];exact this
theorem zhv {c:zq} {m:List ByteArray} (hl:2<=zz c.sp.data.toList) (hm:∀ x,x∈m↔x=c.sp∨x=XU c.sp):(c.fr.all (Xw m) && m.all (Xw c.fr))=zjD c:=by
 unfold zjD;rw [zqY hl,Bool.true_and]
 have e1:c.fr.all (Xw m)=decide (∀ x∈c.fr,x=c.sp∨x=XU c.sp):=by
  rw [Bool.eq_iff_iff,zrh,zra];exact ⟨fun h x hx=>(hm x).1 (of_decide_eq_true (h x hx)),fun h x hx=>zqY ((hm x).2 (h x hx))⟩
 have e2:m.all (Xw c.fr)=(decide (c.sp∈c.fr) && decide (XU c.sp∈c.fr)):=by
  rw [Bool.eq_iff_iff,zrh,zrl,zra,zra];constructor
  ·exact fun h=>⟨of_decide_eq_true (h _ ((hm _).2 (.inl rfl))),of_decide_eq_true (h _ ((hm _).2 (.inr rfl)))⟩
  ·rintro ⟨h1,h2⟩ x hx
   rcases (hm x).1 hx with rfl | rfl
   ·exact zqY h1
   ·exact zqY h2
 rw [e1,e2]
set_option maxHeartbeats 2000000 in
set_option maxRecDepth 100000 in
theorem zhu (w:World) (c:zq) (sa:Option Addr) (sc:Nat) (G:Nat->Prop) (h:YI w (.slice sa c.fr.length sc) G c) (hm:Zp c.sp.data.toList=true) (hfr:c.fr.length<=16):
  Calls Tryz.prog 112 #[xI c (.slice sa c.fr.length sc)] w fun e w'=>e=.returned (.bool (zjD c))∧Chg (fun _=>False) w w':=by
 have k0:=zi (fun _=>False) w (.cells #[.int .i64 c.kind,.int .u16 (c.sg:Int),.string c.sp,.slice sa c.fr.length sc,.int .i64 c.f,.int .i64 c.t,.int .i64 c.n] 64);have OB:=ze (zh w (.cells #[.int .i64 c.kind,.int .u16 (c.sg:Int),.string c.sp,.slice sa c.fr.length sc,.int .i64 c.f,.int .i64 c.t,.int .i64 c.n] 64));have K0:=ze k0;have HS:=ze (h.set.chg k0 (fun _ _ e=>e));have hsp:=(Zn hm).1;have HM:=ze hm;obtain ⟨he,h1,h8,_⟩:=(Zh _).1 hm;have hev:c.sp.size % 2=0:=by rw [zA] at he;exact he
 have WL:=ze (fun w=>ZO w c.sp (by unfold maxLen;omega));have DS:=ze (fun m=>zhv (c:=c) (m:=m));have DF:=ze (show ¬ 2<=zz c.sp.data.toList->zjD c=false from fun q=>by unfold zjD;rw [zqZ q];rfl);generalize zjD c=res at *;obtain ⟨kind,sg,sp,fr,f,t,n⟩:=c;unfold xI;simp only at OB K0 HS hsp HM hev WL DS DF h1 h8 hfr ⊢;clear h hm he k0;have p2:(w.alloc (.cells #[.int .i64 kind,.int .u16 (sg:Int),.string sp,.slice sa fr.length sc,.int .i64 f,.int .i64 t,.int .i64 n] 64)).cell? ⟨w.heap.size,2,none⟩=some (.string sp):=zf OB.out rfl;have hws:w.heap.size<=w.heap.size:=zrj _;go_enter Tryz.func112,Tryz.ntmps112;go_wp2_with fail;generalize hw0:w.alloc (.cells #[.int .i64 kind,.int .u16 (sg:Int),.string sp,.slice sa fr.length sc,.int .i64 f,.int .i64 t,.int .i64 n] 64)=w0 at *;clear hw0;have W0:=ze (WL.out w0);by_cases h2:2<=zz sp.data.toList
 ·have g1:decide ((zz sp.data.toList:Int) < 2)=false:=zqZ (by omega)
  (with_reducible refine W0.out.mono ?_);rintro e w1 ⟨rfl,rfl⟩;go_wp2_with fail;refine zu (N:=36) [.rd [0,1],.ef 2,.ef 3,.ef 4,.rd [5,6,7,8,9]] (fun W=>W.cell? ⟨w.heap.size,2,none⟩=some (.string sp)) (by kernel_rfl) (by kernel_rfl) (by kernel_rfl) (by kernel_rfl) (Nat.le_of_ble_eq_true rfl) p2 ?_;refine zB (A:=?A1) ?h1 ?h2
  case h1=>
   rintro w' z0 K hK;simp only [zM,zqT,zqU,zqV,zqW,zqX];refine WS.out ?_
   repeat (refine Zu (fun K hK=>?_);go_simp;refine hK _ ?_;clear hK K)
   refine yn ?_;exact hK
  have D:=ze (zw (fun _=>False) w0);have OD:=ze (D.out.obj (fun e=>e) OB.out);have HD:=ze (HS.out.chg D.out (fun _ _ e=>e));have KD:=ze (K0.out.trans D.out);clear D p2 OB HS K0 W0;generalize w0.drew=wd at *;refine zI rfl ?_;go_wp2_with fail;have ka:=zi (fun _=>False) wd (.cells #[.int .u16 1] 62);have OF:=zb4 (wd.alloc (.cells #[.int .u16 1] 62)) wd.heap.size 0 1 1 (by omega) (zf (zh _ _) rfl);refine ⟨zf (ka.obj (fun e=>e) OD.out) rfl,?_⟩;have OE:=ze (ka.obj (fun e=>e) OD.out);have HE:=ze (HD.out.chg ka (fun _ _ e=>e));have KE:=ze (KD.out.trans ka);have OF:=ze OF;clear ka OD HD KD;refine zI rfl ?_;go_wp2_with fail;(with_reducible refine OF.out.mono ?_);rintro e w3 ⟨rfl,k3⟩;have O3:=ze (k3.obj (fun e=>e) OE.out);have H3:=ze (HE.out.chg k3 (fun _ _ e=>e));have K3:=ze (KE.out.trans k3);have hat:(ZW 1).data.toList=[0,1]:=zmY;have hasz:(ZW 1).size=2:=by decide +kernel
  have SW:=zh4 w3 sp (ZW 1) 0 1 (by omega) (by omega) hev (by rw [hasz]) (by omega) (by rw [hat];unfold zz at h8 ⊢;simp;omega);rw [hat] at SW;change Calls Tryz.prog 130 #[.string sp,.int .i64 0,.int .i64 1,.string (ZW 1)] w3 (fun e w'=>e=.returned (.tuple #[.string (XU sp),.int .i64 0])∧ZJ w3 w') at SW;have SW:=ze SW;clear k3 OE HE KE OF hat hasz;go_wp2_with fail;refine ⟨zf O3.out rfl,?_⟩;refine zI rfl ?_;go_wp2_with fail;(with_reducible refine SW.out.mono ?_);rintro e w4 ⟨rfl,d4⟩;have k4:Chg (fun _=>False) w3 w4:=d4.chg;have O4:=ze (k4.obj (fun e=>e) O3.out);have H4:=ze (H3.out.chg k4 (fun _ _ e=>e));have K4:=ze (K3.out.trans k4);clear k4 d4 O3 H3 K3 SW;go_wp2_with fail;refine ⟨zf O4.out rfl,?_⟩;refine zB (A:=?A2) ?h3 ?h4
  case h3=>
   rintro w' z0 K hK;simp only [zM,zqT,zqU,zqV,zqW,zqX];refine WS.out ?_
   repeat (refine Zu (fun K hK=>?_);go_simp;refine hK _ ?_;clear hK K)
   refine yn ?_;exact hK
  refine zR ?_;have q2:w4.cell? ⟨w.heap.size,2,none⟩=some (.string sp):=zf O4.out rfl;have htm:=zi6 HM.out;have hts:=(Zn htm).1;have kb:=zi (fun _=>False) w4 (.cells #[.string sp,.string (XU sp)] 57)
  have SO:=ze (zlB (w4.alloc (.cells #[.string sp,.string (XU sp)] 57)) w4.heap.size 0 2 2 (fun k=>k=w4.heap.size) [sp,XU sp] ⟨_,2,rfl,by unfold maxLen;simp,fun j x hj=>⟨w4.heap.size,0,rfl,rfl,by
   rw [Nat.zero_add];refine zf (zh _ _) ?_;rcases j with _ | _ | j
   ·simp at hj;subst hj;rfl
   ·simp at hj;subst hj;rfl
   ·simp at hj,by
   have hx:=zq2 hj;unfold maxLen;simp at hx
   rcases hx with rfl | rfl <;> omega⟩⟩ (by simp) (by simp) (fun x hx=>by
    simp at hx;rcases hx with rfl | rfl
    ·exact HM.out
    ·exact htm))
  have O5:=ze (kb.obj (fun e=>e) O4.out);have H5:=ze (H4.out.chg kb (fun _ _ e=>e));have K5:=ze (K4.out.trans kb);clear kb O4 H4 K4 htm hts;generalize XU sp=told at *;go_wp2_with fail;(with_reducible refine SO.out.mono ?_);rintro e w6 ⟨va,m,hpw,hmem,k6,hres⟩;have hml:m.length<=2:=zbn (hpw.imp (fun {a b} q e=>by subst e;rw [show Yf a a=false from yH _] at q;cases q)) (fun x hx=>(hmem x).1 hx);have hm1:1<=m.length:=List.length_pos_of_mem ((hmem sp).2 (by simp));rcases hres with ⟨_,_,rfl,hva⟩ | ⟨hn,_⟩
  ·have O6:=ze (k6.obj (fun e=>e) O5.out)
   have H6:=ze (H5.out.chg k6 (fun _ _ e=>e));have K6:=ze (K5.out.trans k6);have RES:=ze (DS.out m h2 (fun x=>by rw [hmem];simp));have SS:=zlG w6 _ va fr m _ _ H6.out.at_ hva (by omega) (by omega);rw [RES.out] at SS;have SS:=ze SS;obtain ⟨va1,va2,rfl,_,_⟩:=hva;have q3:w6.cell? ⟨w.heap.size,3,none⟩=some (.slice sa fr.length sc):=zf O6.out rfl;clear k6 O5 H5 K5 hpw hmem SO q2;go_wp2_with fail;(with_reducible refine SS.out.mono ?_);rintro e w7 ⟨rfl,k7⟩;go_wp2;go_ret;exact ⟨rfl,K6.out.trans k7⟩
  ·exact (hn ⟨hm1,by omega⟩).elim
 ·have g1:decide ((zz sp.data.toList:Int) < 2)=true:=zqY (by omega)
  have R:=ze (DF.out h2);(with_reducible refine W0.out.mono ?_);rintro e w1 ⟨rfl,rfl⟩;clear h2;go_wp2;go_ret;exact ⟨by rw [R.out];rfl,K0.out⟩
theorem zcc (w:World) (a:ByteArray) (hs:a.size<=100):xf (w.alloc (.cells #[.string a] 57)) (.slice (some ⟨w.heap.size,0,none⟩) 1 1) (fun k=>k=w.heap.size) [a]:=
 ⟨⟨_,1,rfl,by simp [maxLen],fun j x hj=>⟨_,0,rfl,rfl,by
   have hl:=(zq1.1 hj).1;obtain rfl:j=0:=by simp at hl;omega
   simp at hj;subst hj;exact zf (zh _ _) rfl,by
   have:=zq2 hj;rw [List.mem_singleton] at this;subst this;unfold maxLen;omega⟩⟩,fun n c e=>by cases e⟩
theorem Tryz.sizeCert:(Tryz.prog.info? 64).map (·.size)=some 7:=by kernel_rfl
end Go.Proofs.YthdfplafihmejaaGreat
