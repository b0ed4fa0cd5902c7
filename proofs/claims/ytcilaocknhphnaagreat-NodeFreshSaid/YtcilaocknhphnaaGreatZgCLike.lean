/-
  Package set: Of: words sorted, each once (slices.SortFunc and Compact by the shelf's contracts). Package cert: delegate, like. A variable of many cells, written whole; a set of one word.
-/
import Derived.Test.YtcilaocknhphnaaGreatZgCSet
import Derived.Test.YtcilaocknhphnaaGreatZgRBase
import Derived.Shelf.SlSortCmp.Whole1
import Derived.Shelf.SlicesE.Compact
import Derived.Shelf.SlGeneric
import Derived.Shelf.Lay
import Derived.Ground.SlsfProg
import Derived.Ground.SlgnProg
namespace Go.Proofs
open Go.Shelf
shelf_lay_g SlLaysF.n6 Slsf 6 at Tryz 221 as Tryz.laysSortF
shelf_lay_g SlLaysE.n43 Slgn 43 at Tryz 223 as Tryz.laysCompact
end Go.Proofs
namespace Go.Proofs.YtcilaocknhphnaaGreat
open Go.RowKit Go.Maps Go.Shelf Go.Lib Go.Sort
theorem zf9 {l:List ByteArray} {j:Nat} {x:ByteArray} (h:l[j]? = some x):(zO l)[j]? = some (.string x):=by
 unfold zO;rw [zlK,h];rfl
def ziG (a b:ByteArray):Int:=if Zs a.data.toList b.data.toList=true then -1 else if Zs b.data.toList a.data.toList=true then 1 else 0
theorem zeg (w:World) (a b:ByteArray):Calls Tryz.prog 222 #[.string a,.string b] w fun e w'=>e=.returned (.int .i64 (ziG a b))∧w=w':=by
 have L1:=zf (zas w a b);have L2:=zf (zas w b a);have R:=zf (show ziG a b=if Zs a.data.toList b.data.toList=true then -1 else if Zs b.data.toList a.data.toList=true then 1 else 0 from rfl);generalize Zs a.data.toList b.data.toList=p at *;generalize Zs b.data.toList a.data.toList=q at *;go_enter Tryz.func222,Tryz.ntmps222;cases p with
 | true=>
  go_wp2_with fail;(with_reducible refine L1.out.mono ?_);rintro e w2 ⟨rfl,rfl⟩;go_wp2;go_ret;exact ⟨by rw [R.out];rfl,rfl⟩
 | false=>
  go_wp2_with fail;(with_reducible refine L1.out.mono ?_);rintro e w2 ⟨rfl,rfl⟩;go_wp2_with fail;(with_reducible refine L2.out.mono ?_);rintro e w3 ⟨rfl,rfl⟩;cases q
  all_goals
   go_wp2;go_ret;exact ⟨by rw [R.out];rfl,rfl⟩
theorem zcd (a b:ByteArray):ltOf ziG a b=ZY a b:=by
 unfold ltOf ziG ZY;cases Zs a.data.toList b.data.toList with
 | true=>rfl
 | false=>cases Zs b.data.toList a.data.toList <;> rfl
theorem ziF:SWO (ltOf ziG) where
 irrefl x:=by rw [zcd];exact ZF _
 trans x y z h1 h2:=by rw [zcd] at *;exact ZH h1 h2
 ntrans x y z h1 h2:=by
  rw [zcd] at *;rw [<- zlW];intro h;cases q:ZY y x with
  | true=>
   have:=ZH q h;rw [show Zs y.data.toList z.data.toList=false from h2] at this;cases this
  | false=>
   have e:=Yx (Ya (show Zs x.data.toList y.data.toList=false from h1) q);subst e;rw [h2] at h;cases h
theorem zjf {w:World} {g n:Nat} {e:TypeId} {cur:Array Value} (ys:List ByteArray) (hg:w.heap[g]? = some (.cells cur e (0,0))) (hy:ys.length=n) (hc:n<=cur.size) (q:Nat) (os:Array Obj):
  (grow (putRow Value.string (Sort.ahead w q) g 0 ys.toArray) os).heap[g]? = some (.cells ((ys.map Value.string)++cur.toList.drop n).toArray e (0,0))∧Chg (·=g) w (grow (putRow Value.string (Sort.ahead w q) g 0 ys.toArray) os):=by
 have hlt:=zu hg
 have h1:(putRow Value.string (Sort.ahead w q) g 0 ys.toArray).heap[g]? = some (.cells (putCells Value.string 0 ys.toArray cur) e (0,0)):=by
  show (w.heap.modify g (onCells _))[g]? = _;rw [Array.getElem?_modify,if_pos rfl,hg];rfl
 have h2:putCells Value.string 0 ys.toArray cur=((ys.map Value.string)++cur.toList.drop n).toArray:=by
  apply Array.ext
  ·simp [putCells];omega
  ·intro i h3 h4
   simp only [putCells,Array.size_mapIdx] at h3;simp only [putCells,Array.getElem_mapIdx,List.getElem_toArray];by_cases hi:i < n
   ·rw [if_pos ⟨by omega,by simp;omega⟩,List.getElem_append_left (by simp;omega)]
    simp [hy,hi]
   ·rw [if_neg (by simp;omega),List.getElem_append_right (by simp;omega)]
    simp [hy]
    congr 1;omega
 refine ⟨?_,?_⟩
 ·rw [heap_grow_old _ os (by rw [size_putRow];exact hlt),h1,h2]
 ·have hz:=size_putRow Value.string (Sort.ahead w q) g 0 ys.toArray
  refine ⟨rfl,rfl,rfl,by rw [grow,Array.size_append,hz];show w.heap.size<=w.heap.size+os.size;omega,fun k hk hne=>?_⟩;rw [heap_grow_old _ os (by rw [size_putRow];exact hk)];show (w.heap.modify g (onCells _))[k]? = _;rw [Array.getElem?_modify,if_neg (fun e=>hne e.symm)]
structure zi3 (w:World) (base g cap:Nat) (l:List ByteArray):Prop where
 row:∃ cs,w.heap[g]? = some (.cells cs 29 (0,0))∧cs.size=cap∧∀ (j:Nat) x,l[j]? = some x->cs[j]? = some (.string x)
 len:l.length<=cap
 max:cap<=maxLen
 base:base<=g
theorem zhL {w:World} {base g cap:Nat} {l:List ByteArray} (h:w.ownsRow base 29 1 (.slice (some ⟨g,0,none⟩) l.length cap) l.length (zO l)):zi3 w base g cap l:=by
 have h0:=h;obtain ⟨_,⟨q,_⟩ | ⟨g',cap',cur,q,hb,hh,h1,h2,h3,h4⟩⟩:=h
 ·cases q
 ·cases q
  refine ⟨⟨cur,hh,by omega,fun j x hj=>?_⟩,h1,h2,hb⟩;have hl:=(zlA.1 hj).1;have:=h0.cellAt j (by omega);rw [zf9 hj] at this;have hc:j < cur.size:=by omega
  have e2:w.cell? ⟨g,j,none⟩=some cur[j]:=zg hh (Array.getElem?_eq_getElem hc);rw [e2] at this;rw [Array.getElem?_eq_getElem hc];exact this
theorem zi3.holds {w:World} {base g cap:Nat} {l:List ByteArray} (h:zi3 w base g cap l):Holds Value.string w g 0 l.toArray:=by
 obtain ⟨cs,h1,h2,h3⟩:=h.row;intro j hj;have hj:j < l.length:=by simpa using hj
 refine ⟨?_,zk h1⟩;rw [Nat.zero_add,zg h1 (h3 j _ (zlz hj)),getElem!_pos _ j (by simpa using hj)];simp
theorem zi3.words {w:World} {base g cap n:Nat} {l:List ByteArray} (h:zi3 w base g cap l) (hs:∀ x∈l,x.size<=maxLen) (hn:n=l.length) (c:Nat):zV w (.slice (some ⟨g,0,none⟩) n c) (fun k=>k=g) l:=by
 obtain ⟨cs,h1,h2,h3⟩:=h.row;subst hn;exact ⟨_,c,rfl,Nat.le_trans h.len h.max,fun j x hj=>⟨g,0,rfl,rfl,by rw [Nat.zero_add];exact zg h1 (h3 j x hj),hs x (zlB hj)⟩⟩
theorem zi3.put {w:World} {base g cap:Nat} {l:List ByteArray} (h:zi3 w base g cap l) (ys:List ByteArray) (hy:ys.length=l.length) (m:List ByteArray) (hm:∀ (j:Nat) x,m[j]? = some x->ys[j]? = some x) (hml:m.length<=ys.length) (q:Nat) (os:Array Obj):
  zi3 (grow (putRow Value.string (Sort.ahead w q) g 0 ys.toArray) os) base g cap m∧Chg (·=g) w (grow (putRow Value.string (Sort.ahead w q) g 0 ys.toArray) os):=by
 obtain ⟨cs,h1,h2,h3⟩:=h.row;have hl:=h.len;obtain ⟨r1,r2⟩:=zjf ys h1 rfl (by omega) q os;refine ⟨⟨⟨_,r1,by simp;omega,fun j x hj=>?_⟩,by omega,h.max,h.base⟩,r2⟩;have hx:=hm j x hj;have hjl:=(zlA.1 hx).1;rw [zlu,List.getElem?_append_left (by simpa using hjl),zlK,hx];rfl
theorem XC {d:Array ByteArray} (hs:SortedIn (ltOf ziG) 0 d.size d):∀ k,k<=d.size->(compactUpTo d k).Pairwise (fun a b=>ZY a b=true)∧(∀ x,x∈compactUpTo d k↔∃ j,j < k∧d[j]! = x)
 | 0,_=>⟨by simp [compactUpTo],fun x=>by simp [compactUpTo]⟩
 | k+1,hk=>by
  obtain ⟨h1,h2⟩:=XC hs k (by omega);rw [compactUpTo_succ]
  have le:∀ i j,i<=j->j < d.size->ZY d[j]! d[i]! = false:=fun i j hij hj=>by
   rcases Nat.lt_or_ge i j with q | q
   ·have:=hs i j (Nat.zero_le _) q hj
    rwa [zcd] at this
   ·obtain rfl:i=j:=by omega
    exact ZF _
  cases hkp:keeps d k with
  | true=>
   rw [if_pos rfl];refine ⟨?_,fun x=>?_⟩
   ·rw [List.pairwise_append]
    refine ⟨h1,List.pairwise_singleton _ _,fun x hx y hy=>?_⟩;rw [List.mem_singleton] at hy;subst hy;obtain ⟨j,hj,rfl⟩:=(h2 x).1 hx;have hkk:k=0∨d[k]!≠d[k - 1]!:=of_decide_eq_true hkp
    have hne:d[k]!≠d[k - 1]!:=by
     rcases hkk with q | q
     ·omega
     ·exact q
    cases q:ZY d[j]! d[k]! with
    | true=>rfl
    | false=>
     exfalso;have a1:=le j (k - 1) (by omega) (by omega);have a2:=le (k - 1) k (by omega) (by omega);apply hne;cases r:ZY d[k - 1]! d[k]! with
     | false=>exact Yx (Ya a2 r)
     | true=>
      have:ZY d[j]! d[k]! = true:=by
       cases s:ZY d[j]! d[k - 1]! with
       | true=>exact ZH s r
       | false=>
        have e:=Yx (Ya s a1);rw [e];exact r
      rw [q] at this;cases this
   ·rw [zlL,h2,List.mem_singleton]
    constructor
    ·rintro (⟨j,hj,e⟩ | e)
     ·exact ⟨j,by omega,e⟩
     ·exact ⟨k,by omega,e.symm⟩
    ·rintro ⟨j,hj,e⟩
     rcases Nat.lt_or_ge j k with q | q
     ·exact .inl ⟨j,q,e⟩
     ·obtain rfl:j=k:=by omega
      exact .inr e.symm
  | false=>
   rw [if_neg (by simp),List.append_nil];have hkk:¬ (k=0∨d[k]!≠d[k - 1]!):=of_decide_eq_false hkp;have h0:k≠0:=fun e=>hkk (.inl e);have he:d[k]! = d[k - 1]!:=Classical.byContradiction fun q=>hkk (.inr q);refine ⟨h1,fun x=>?_⟩;rw [h2];constructor
   ·rintro ⟨j,hj,e⟩
    exact ⟨j,by omega,e⟩
   ·rintro ⟨j,hj,e⟩
    rcases Nat.lt_or_ge j k with q | q
    ·exact ⟨j,q,e⟩
    ·obtain rfl:j=k:=by omega
     exact ⟨j - 1,by omega,by rw [<- he];exact e⟩
theorem zdP {d d':Array ByteArray} (h:PermIn 0 d.size d d'):d'.toList.Perm d.toList:=by
 obtain ⟨h1,_,h3⟩:=h;have e1:d'.extract 0 d.size=d':=by rw [<- h1];simp
 have e2:d.extract 0 d.size=d:=by simp
 rwa [e1,e2] at h3
theorem zeh {d:Array ByteArray} (hs:SortedIn (ltOf ziG) 0 d.size d) (x:ByteArray):x∈compactUpTo d d.size↔x∈d.toList:=by
 rw [(XC hs d.size (zlS _)).2];constructor
 ·rintro ⟨j,hj,rfl⟩
  rw [getElem!_pos _ j hj];exact zlB (i:=j) (by simp [hj])
 ·intro h
  obtain ⟨j,hj⟩:=List.mem_iff_getElem?.1 h;have hl:=(zlA.1 hj).1;have hl:j < d.size:=by simpa using hl
  refine ⟨j,hl,?_⟩;rw [getElem!_pos _ j hl]
  simpa [hl] using hj
theorem ze8 (w:World) (g o n c:Nat) (G:Nat->Prop) (l:List ByteArray) (hv:zV w (.slice (some ⟨g,o,none⟩) n c) G l) (hl:l.length<=1000):
  Calls Tryz.prog 220 #[.slice (some ⟨g,o,none⟩) n c] w fun e w'=>∃ v,e=.returned v∧w'.ownsRow w.heap.size 29 1 v l.length (zO l)∧Chg (fun _=>False) w w':=by
 have SRC:=zf (xU hv);obtain ⟨la,cap,e,hl0,_⟩:=hv;cases e;have EQN:=fun w=>Lib.run_eql_slice_nil (P:=Tryz.prog) w 31 _ (some ⟨g,o,none⟩) l.length c 0 0 Tryz.underlying31;go_enter Tryz.func220,Tryz.ntmps220;go_wp2_with (at_builtin;refine Ye rfl (.tmp 5) (.tmp 6) 31 rfl 29 1 16 Tryz.underlying31 Tryz.elemWord w.heap.size _ 0 [] rfl (yX _ _ _ _ (zlS _)) (some ⟨g,o,none⟩) l.length c (zO l) rfl ?a1 ?a2 ?a3 ?a4 ?a5 ?a6 ?a7 ?nx1)
 case a1=>unfold zO;rw [zlD];omega
 case a2=>
  intro j u hj;obtain ⟨g',o',e,c1⟩:=SRC.out j u hj;exact ⟨g',o',e,zj (zi (fun _=>False) w _) (fun e=>e) c1⟩
 case a3=>intro e;cases e
 case a4=>exact xi l
 case a5=>omega
 case a6=>unfold maxLen;omega
 case a7=>simp
 intro v8 w8 o8 g8;obtain ⟨a8,c8,rfl⟩:=zl o8
 have k8:Chg (fun _=>False) w w8:=(zi (fun _=>False) w (.cells #[] 29)).next (Chg.of_grown g8) (fun x hx e=>by
  have e2:w.heap.size=x:=by simpa [Value.ownBlock] using e
  omega)
 have K8:=zf k8;have O8:=zf (show w8.ownsRow w.heap.size 29 1 (.slice a8 (0+l.length) c8) l.length (zO l) from by simpa using o8);clear o8 g8 k8;go_wp2;go_ret;exact ⟨_,rfl,(by have:=O8.out;rw [Nat.zero_add] at this;exact this),K8.out⟩
theorem zf8 (w:World) (g n c:Nat) (hn:n<=c):Calls Tryz.prog 224 #[.slice (some ⟨g,0,none⟩) n c] w fun e w'=>e=.returned (.slice (some ⟨g,0,none⟩) n n)∧w=w':=by
 go_enter Tryz.func224,Tryz.ntmps224;go_wp2;go_ret;exact ⟨rfl,rfl⟩
def zci (w:World) (l:List ByteArray) (e:Ending) (w':World):Prop:=
 ∃ va m,m.Pairwise (fun a b=>ZY a b=true)∧(∀ x,x∈m↔x∈l)∧Chg (fun _=>False) w w'∧((1<=m.length∧m.length<=16∧e=.returned (.tuple #[va,.int .i64 0])∧zV w' va (fun k=>w.heap.size<=k∧k < w'.heap.size) m)∨(¬ (1<=m.length∧m.length<=16)∧e=.returned (.tuple #[.slice none 0 0,.int .i64 3])))
theorem zdG {w w':World} {l m:List ByteArray} {va:Value} (h1:m.Pairwise (fun a b=>ZY a b=true)) (h2:∀ x,x∈m↔x∈l) (hc:Chg (fun _=>False) w w') (h3:1<=m.length) (h4:m.length<=16) (hw:zV w' va (fun k=>w.heap.size<=k∧k < w'.heap.size) m):zci w l (.returned (.tuple #[va,.int .i64 0])) w':=⟨va,m,h1,h2,hc,.inl ⟨h3,h4,rfl,hw⟩⟩
theorem zcA {w w':World} {l m:List ByteArray} (h1:m.Pairwise (fun a b=>ZY a b=true)) (h2:∀ x,x∈m↔x∈l) (hc:Chg (fun _=>False) w w') (h3:¬ (1<=m.length∧m.length<=16)):zci w l (.returned (.tuple #[.slice none 0 0,.int .i64 3])) w':=⟨.slice none 0 0,m,h1,h2,hc,.inr ⟨h3,rfl⟩⟩
theorem zkU (P:Program) (T:TypeId):EqlAt P T Value.string (fun x y:ByteArray=>decide (x=y)):=by
 have:=EqlAt.string P T;rwa [show (fun x y:ByteArray=>x.toList == y.toList)=fun x y=>decide (x=y) from funext fun x=>funext fun y=>XJ x y] at this
theorem zkM (P:Program) (T:TypeId):NeqAt P T Value.string (fun x y:ByteArray=>decide (x=y)):=by
 have:=NeqAt.string P T;rwa [show (fun x y:ByteArray=>x.toList == y.toList)=fun x y=>decide (x=y) from funext fun x=>funext fun y=>XJ x y] at this
set_option maxHeartbeats 2000000 in
set_option maxRecDepth 100000 in
theorem zgk (w:World) (g o n c:Nat) (G:Nat->Prop) (l:List ByteArray) (hv:zV w (.slice (some ⟨g,o,none⟩) n c) G l) (hl1:1<=l.length) (hl:l.length<=1000) (hm:∀ x∈l,ZZ x.data.toList=true):
  Calls Tryz.prog 155 #[.slice (some ⟨g,o,none⟩) n c] w (zci w l):=by
 have HV:=zf hv;have HM:=zf hm;obtain ⟨_,_,e,hl0,hcl⟩:=hv;cases e
 have SZ:=zf (show ∀ x∈l,x.size<=maxLen from fun x hx=>by
  obtain ⟨j,hj⟩:=List.mem_iff_getElem?.1 hx;obtain ⟨_,_,_,_,_,q⟩:=hcl j x hj;exact q)
 clear hcl hm;unfold maxLen at hl0;go_enter Tryz.func155,Tryz.ntmps155;go_wp2;go_loopw [9] (fun iv wr=>∃ k:Nat,k<=l.length∧iv=.int .i64 k∧Hid (Chg (fun _=>False) w wr)) (fun iv _=>l.length - (intOf iv).toNat)
 case atStart=>exact ⟨0,by omega,rfl,zf (Chg.refl _ _)⟩
 case round=>
  obtain ⟨k,hk,rfl,HI⟩:=hrel;by_cases hlt:k < l.length
  ·obtain ⟨x,hx⟩:∃ x,l[k]? = some x:=⟨_,zlz hlt⟩
   obtain ⟨_,_,e1,_,hcl⟩:=HV.out.chg HI.out (fun _ _ e=>e);cases e1;obtain ⟨lb,lo,e2,_,c0,hxs⟩:=hcl k x hx;cases e2;have MY:=xg wr x hxs;rw [HM.out x (zlB hx)] at MY;have MY:=zf MY;clear hcl hx hxs;go_wp2_with fail;(with_reducible refine MY.out.mono ?_);rintro e w2 ⟨rfl,k2⟩;have K2:=zf (HI.out.trans k2);clear k2 MY;go_wp2;go_roundw
   case rel=>exact ⟨k+1,by omega,by go_num,K2⟩
   case measure=>simp [intOf];omega
  ·obtain rfl:k=l.length:=by omega
   have CL:=zf (ze8 wr g o l.length c G l (HV.out.chg HI.out (fun _ _ e=>e)) hl);have hsw:w.heap.size<=wr.heap.size:=HI.out.size;go_wp2_with fail;(with_reducible refine CL.out.mono ?_);rintro e w2 ⟨va,rfl,ho,k2⟩;have K2:=zf (HI.out.trans k2);obtain ⟨a2,cap,rfl⟩:=zl ho;obtain ⟨g2,rfl⟩:=Xe ho (by omega);have W2:=zf (zhL ho);have hcap:=W2.out.len;have hcm:=W2.out.max;have hg2:w.heap.size<=g2:=Nat.le_trans hsw W2.out.base
   have hgl:g2 < w2.heap.size:=by
    obtain ⟨cs,q,_⟩:=W2.out.row;exact zu q
   have ST:=Any.slices_SortFunc Tryz.laysSortF Value.string (fun _=>rfl) ziG ziF 222 #[] g2 0 cap l.toArray w2 (enters_of Tryz.func222 (by kernel_rfl) rfl) (CmpReads.lays fun m os dk _ x y=>(zeg _ x y).mono fun e w' ⟨he,hw⟩=>⟨he,0,by rw [<- hw];rfl⟩) W2.out.holds hgl (by simp;omega);change Calls Tryz.prog 221 #[.slice (some ⟨g2,0,none⟩) l.length cap,.func (.func 222) #[] #[]] w2 _ at ST;have ST:=zf ST;clear ho k2 CL;go_wp2_with fail;(with_reducible refine ST.out.mono ?_);rintro e w3 ⟨rfl,d',q,os,hperm,hsorted,hw3⟩;have hd:d'.size=l.length:=by have:=hperm.1;simpa using this
   have hpl:d'.toList.Perm l:=zdP hperm;have hso:SortedIn (ltOf ziG) 0 d'.size d':=by rw [hd];have:=hsorted;simpa using this
   have w3b:w3=grow (putRow Value.string (Sort.ahead w2 q) g2 0 d'.toList.toArray) os:=by rw [hw3];simp [sortWorld]
   obtain ⟨W3,k3⟩:=W2.out.put d'.toList (by simp [hd]) d'.toList (fun _ _ h=>h) (zlS _) q os;rw [<- w3b] at W3 k3;have W3:=zf W3;have K3:=zf (show Chg (fun _=>False) w w3 from K2.out.next k3 (fun x hx e=>by omega))
   have hg3:g2 < w3.heap.size:=by
    obtain ⟨cs,r,_⟩:=W3.out.row;exact zu r
   have hz3:∀ w,(zeroValue 29).run Tryz.prog w=.ok (Value.string ⟨#[]⟩) w:=fun _=>by kernel_rfl
   have hH3:Holds Value.string w3 g2 0 d':=by have:=W3.out.holds;simpa using this
   have CP:=AnyE.slices_Compact Tryz.laysCompact Value.string (fun _=>rfl) (zkU _ _) (zkM _ _) (⟨#[]⟩:ByteArray) hz3 g2 0 cap d' w3 hH3 (by omega) (by omega);change Calls Tryz.prog 223 #[.slice (some ⟨g2,0,none⟩) d'.size cap] w3 _ at CP;rw [hd] at CP;have hcm1:=XC hso d'.size (zlS _);have hcm2:=zeh hso;rw [hd] at hcm1 hcm2;have hml:(compactUpTo d' l.length).length<=l.length:=Xh (hcm1.1.imp (fun {a b} q e=>by subst e;rw [show ZY a a=false from ZF _] at q;cases q)) (fun x hx=>hpl.mem_iff.1 ((hcm2 x).1 hx));have PW:=zf hcm1.1;have MEM:=zf (show ∀ x,x∈compactUpTo d' l.length↔x∈l from fun x=>by rw [hcm2];exact hpl.mem_iff);clear hcm1 hcm2 hso hperm hsorted hw3 w3b k3 hpl K2 hH3 ST;generalize compactUpTo d' l.length=m at *;have CP:=zf CP;go_wp2_with fail;(with_reducible refine CP.out.mono ?_);rintro e w4 ⟨rfl,q4,hw4⟩;have hyl:(m++List.replicate (l.length - m.length) (⟨#[]⟩:ByteArray)).length=d'.toList.length:=by simp [hd];omega
   obtain ⟨W4,k4⟩:=W3.out.put (m++List.replicate (l.length - m.length) ⟨#[]⟩) hyl m (fun j x h=>by
    rw [List.getElem?_append_left (zlA.1 h).1];exact h) (by simp) q4 #[]
   rw [grow_empty,<- hw4] at W4 k4;have W4:=zf W4;have K4:=zf (show Chg (fun _=>False) w w4 from K3.out.next k4 (fun x hx e=>by omega))
   have hg4:g2 < w4.heap.size:=by
    obtain ⟨cs,r,_⟩:=W4.out.row;exact zu r
   have hmc:m.length<=cap:=by omega
   clear hyl k4 hw4 CP K3 W3;by_cases hb:1<=m.length∧m.length<=16
   ·have g1:decide ((m.length:Int) < 1)=false:=zly (by omega)
    have g2':decide (16 < (m.length:Int))=false:=zly (by omega);have CC:=zf (zf8 w4 g2 m.length cap hmc);have FIN:=zf (zdG PW.out MEM.out K4.out hb.1 hb.2 ((W4.out.words (fun x hx=>SZ.out x ((MEM.out x).1 hx)) rfl m.length).up (fun k hk=>by omega)));clear hb;go_wp2_with fail;(with_reducible refine CC.out.mono ?_);rintro e w5 ⟨rfl,rfl⟩;go_wp2;go_ret2;exact FIN.out
   ·have FIN:=zf (zcA PW.out MEM.out K4.out hb)
    have P3:(decide ((m.length:Int) < 1)=true)∨(decide ((m.length:Int) < 1)=false∧decide (16 < (m.length:Int))=true):=by
     by_cases q:(m.length:Int) < 1
     ·exact .inl (zlx q)
     ·exact .inr ⟨zly q,zlx (by omega)⟩
    clear hb;rcases P3 with q1 | ⟨q1,q2⟩
    all_goals
     go_wp2;go_ret2;exact FIN.out
structure ZW (w:World) (sv:Value) (G:Nat->Prop) (c:zF):Prop where
 set:yR w sv G c.fr
 sp:c.sp.size<=maxLen
 sg:c.sg < 65536
theorem ZW.chg {S:Nat->Prop} {w w':World} {sv:Value} {G:Nat->Prop} {c:zF} (h:ZW w sv G c) (hc:Chg S w w') (hs:∀ k,G k->¬ S k):ZW w' sv G c:=⟨h.set.chg hc hs,h.sp,h.sg⟩
def Zn (c:zF) (sv:Value):Value:=.agg #[.int .i64 c.kind,.int .u16 (c.sg:Int),.string c.sp,sv,.int .i64 c.f,.int .i64 c.t,.int .i64 c.n]
theorem zkR (w:World) (a:Nat):YA (w.alloc (.cells #[.int .i64 ((a:Nat):Int)] 3)) (.slice (some ⟨w.heap.size,0,none⟩) 1 1) (fun k=>k=w.heap.size) (zhK [a]):=Xx w [((a:Nat):Int)] _ (by simp)
theorem zkQ (w:World) (a b:Nat):YA (w.alloc (.cells #[.int .i64 ((a:Nat):Int),.int .i64 ((b:Nat):Int)] 3)) (.slice (some ⟨w.heap.size,0,none⟩) 2 2) (fun k=>k=w.heap.size) (zhK [a,b]):=Xx w [((a:Nat):Int),((b:Nat):Int)] _ (by simp)
theorem zgc (sp:ByteArray):(Yp sp).data.toList=YV sp.data.toList 0 1 [0,1]:=by unfold Yp;simp
theorem zhu:(ZL 1).data.toList=[0,1]:=by decide +kernel
theorem zeu {sp:ByteArray} (h:ZZ sp.data.toList=true):ZZ (Yp sp).data.toList=true:=by
 rw [zgc];obtain ⟨h1,h2,h3,h4⟩:=(Zr _).1 h;have hl:sp.data.toList.length=2*zI sp.data.toList:=by unfold zI;omega
 have e:YV sp.data.toList 0 1 [0,1]=[0,1]++sp.data.toList.drop 2:=by unfold YV;simp
 have el:(YV sp.data.toList 0 1 [0,1]).length=sp.data.toList.length:=by
  rw [e,zlC,List.length_drop];simp only [List.length_cons,List.length_nil];omega
 have ea:zI (YV sp.data.toList 0 1 [0,1])=zI sp.data.toList:=by unfold zI;rw [el]
 refine (Zr _).2 ⟨by rw [el];exact h1,by rw [ea];exact h2,by rw [ea];exact h3,fun i hi=>?_⟩;rw [ea] at hi;cases i with
 | zero=>
  rw [e];unfold zL;simp
 | succ i=>
  have:=h4 (i+1) hi;unfold zL at this ⊢;rw [e]
  have g:∀ j,2<=j->([0,1]++sp.data.toList.drop 2:List UInt8).getD j 0=sp.data.toList.getD j 0:=fun j hj=>by
   rw [zlF,zlF,List.getElem?_append_right (by simpa using hj)];simp
   congr 2
   omega
  rw [g _ (by omega),g _ (by omega)];exact this
theorem zda {c:zF} {m:List ByteArray} (hl:2<=zI c.sp.data.toList) (hm:∀ x,x∈m↔x=c.sp∨x=Yp c.sp):(c.fr.all (zb9 m) && m.all (zb9 c.fr))=zeR c:=by
 unfold zeR;rw [zlx hl,Bool.true_and]
 have e1:c.fr.all (zb9 m)=decide (∀ x∈c.fr,x=c.sp∨x=Yp c.sp):=by
  rw [Bool.eq_iff_iff,zlQ,zlJ];exact ⟨fun h x hx=>(hm x).1 (of_decide_eq_true (h x hx)),fun h x hx=>zlx ((hm x).2 (h x hx))⟩
 have e2:m.all (zb9 c.fr)=(decide (c.sp∈c.fr) && decide (Yp c.sp∈c.fr)):=by
  rw [Bool.eq_iff_iff,zlQ,zlU,zlJ,zlJ];constructor
  ·exact fun h=>⟨of_decide_eq_true (h _ ((hm _).2 (.inl rfl))),of_decide_eq_true (h _ ((hm _).2 (.inr rfl)))⟩
  ·rintro ⟨h1,h2⟩ x hx
   rcases (hm x).1 hx with rfl | rfl
   ·exact zlx h1
   ·exact zlx h2
 rw [e1,e2]
set_option maxHeartbeats 2000000 in
set_option maxRecDepth 100000 in
theorem zc9 (w:World) (c:zF) (sa:Option Addr) (sc:Nat) (G:Nat->Prop) (h:ZW w (.slice sa c.fr.length sc) G c) (hm:ZZ c.sp.data.toList=true) (hfr:c.fr.length<=16):
  Calls Tryz.prog 299 #[Zn c (.slice sa c.fr.length sc)] w fun e w'=>e=.returned (.bool (zeR c))∧Chg (fun _=>False) w w':=by
 have k0:=zi (fun _=>False) w (.cells #[.int .i64 c.kind,.int .u16 (c.sg:Int),.string c.sp,.slice sa c.fr.length sc,.int .i64 c.f,.int .i64 c.t,.int .i64 c.n] 103);have OB:=zf (zh w (.cells #[.int .i64 c.kind,.int .u16 (c.sg:Int),.string c.sp,.slice sa c.fr.length sc,.int .i64 c.f,.int .i64 c.t,.int .i64 c.n] 103));have K0:=zf k0;have HS:=zf (h.set.chg k0 (fun _ _ e=>e));have hsp:=(Zq hm).1;have HM:=zf hm;obtain ⟨he,h1,h8,_⟩:=(Zr _).1 hm;have hev:c.sp.size % 2=0:=by rw [zz] at he;exact he
 have WL:=zf (fun w=>yf w c.sp (by unfold maxLen;omega));have DS:=zf (fun m=>zda (c:=c) (m:=m));have DF:=zf (show ¬ 2<=zI c.sp.data.toList->zeR c=false from fun q=>by unfold zeR;rw [zly q];rfl);generalize zeR c=res at *;obtain ⟨kind,sg,sp,fr,f,t,n⟩:=c;unfold Zn;simp only at OB K0 HS hsp HM hev WL DS DF h1 h8 hfr ⊢;clear h hm he k0;have p2:(w.alloc (.cells #[.int .i64 kind,.int .u16 (sg:Int),.string sp,.slice sa fr.length sc,.int .i64 f,.int .i64 t,.int .i64 n] 103)).cell? ⟨w.heap.size,2,none⟩=some (.string sp):=zg OB.out rfl;have hws:w.heap.size<=w.heap.size:=zlS _;go_enter Tryz.func299,Tryz.ntmps299;go_wp2_with fail;generalize hw0:w.alloc (.cells #[.int .i64 kind,.int .u16 (sg:Int),.string sp,.slice sa fr.length sc,.int .i64 f,.int .i64 t,.int .i64 n] 103)=w0 at *;clear hw0;have W0:=zf (WL.out w0);by_cases h2:2<=zI sp.data.toList
 ·have g1:decide ((zI sp.data.toList:Int) < 2)=false:=zly (by omega)
  (with_reducible refine W0.out.mono ?_);rintro e w1 ⟨rfl,rfl⟩;go_wp2_with fail;refine zC (N:=36) [.rd [0,1],.ef 2,.ef 3,.ef 4,.rd [5,6,7,8,9]] (fun W=>W.cell? ⟨w.heap.size,2,none⟩=some (.string sp)) (by kernel_rfl) (by kernel_rfl) (by kernel_rfl) (by kernel_rfl) (Nat.le_of_ble_eq_true rfl) p2 ?_;refine zJ (A:=?A1) ?h1 ?h2
  case h1=>
   rintro w' z0 K hK;simp only [zS,zls,zlt,zlu,zlv,zlw];refine WS.out ?_
   repeat (refine Zd (fun K hK=>?_);go_simp;refine hK _ ?_;clear hK K)
   refine Zv ?_;exact hK
  have D:=zf (zy (fun _=>False) w0);have OD:=zf (D.out.obj (fun e=>e) OB.out);have HD:=zf (HS.out.chg D.out (fun _ _ e=>e));have KD:=zf (K0.out.trans D.out);clear D p2 OB HS K0 W0;generalize w0.drew=wd at *;refine zQ rfl ?_;go_wp2_with fail;have ka:=zi (fun _=>False) wd (.cells #[.int .u16 1] 58);have OF:=zah (wd.alloc (.cells #[.int .u16 1] 58)) wd.heap.size 0 1 1 (by omega) (zg (zh _ _) rfl);refine ⟨zg (ka.obj (fun e=>e) OD.out) rfl,?_⟩;have OE:=zf (ka.obj (fun e=>e) OD.out);have HE:=zf (HD.out.chg ka (fun _ _ e=>e));have KE:=zf (KD.out.trans ka);have OF:=zf OF;clear ka OD HD KD;refine zQ rfl ?_;go_wp2_with fail;(with_reducible refine OF.out.mono ?_);rintro e w3 ⟨rfl,k3⟩;have O3:=zf (k3.obj (fun e=>e) OE.out);have H3:=zf (HE.out.chg k3 (fun _ _ e=>e));have K3:=zf (KE.out.trans k3);have hat:(ZL 1).data.toList=[0,1]:=zhu;have hasz:(ZL 1).size=2:=by decide +kernel
  have SW:=zjd w3 sp (ZL 1) 0 1 (by omega) (by omega) hev (by rw [hasz]) (by omega) (by rw [hat];unfold zI at h8 ⊢;simp;omega);rw [hat] at SW;change Calls Tryz.prog 329 #[.string sp,.int .i64 0,.int .i64 1,.string (ZL 1)] w3 (fun e w'=>e=.returned (.tuple #[.string (Yp sp),.int .i64 0])∧Zo w3 w') at SW;have SW:=zf SW;clear k3 OE HE KE OF hat hasz;go_wp2_with fail;refine ⟨zg O3.out rfl,?_⟩;refine zQ rfl ?_;go_wp2_with fail;(with_reducible refine SW.out.mono ?_);rintro e w4 ⟨rfl,d4⟩;have k4:Chg (fun _=>False) w3 w4:=d4.chg;have O4:=zf (k4.obj (fun e=>e) O3.out);have H4:=zf (H3.out.chg k4 (fun _ _ e=>e));have K4:=zf (K3.out.trans k4);clear k4 d4 O3 H3 K3 SW;go_wp2_with fail;refine ⟨zg O4.out rfl,?_⟩;refine zJ (A:=?A2) ?h3 ?h4
  case h3=>
   rintro w' z0 K hK;simp only [zS,zls,zlt,zlu,zlv,zlw];refine WS.out ?_
   repeat (refine Zd (fun K hK=>?_);go_simp;refine hK _ ?_;clear hK K)
   refine Zv ?_;exact hK
  refine Za ?_;have q2:w4.cell? ⟨w.heap.size,2,none⟩=some (.string sp):=zg O4.out rfl;have htm:=zeu HM.out;have hts:=(Zq htm).1;have kb:=zi (fun _=>False) w4 (.cells #[.string sp,.string (Yp sp)] 29)
  have SO:=zf (zgk (w4.alloc (.cells #[.string sp,.string (Yp sp)] 29)) w4.heap.size 0 2 2 (fun k=>k=w4.heap.size) [sp,Yp sp] ⟨_,2,rfl,by unfold maxLen;simp,fun j x hj=>⟨w4.heap.size,0,rfl,rfl,by
   rw [Nat.zero_add];refine zg (zh _ _) ?_;rcases j with _ | _ | j
   ·simp at hj;subst hj;rfl
   ·simp at hj;subst hj;rfl
   ·simp at hj,by
   have hx:=zlB hj;unfold maxLen;simp at hx
   rcases hx with rfl | rfl <;> omega⟩⟩ (by simp) (by simp) (fun x hx=>by
    simp at hx;rcases hx with rfl | rfl
    ·exact HM.out
    ·exact htm))
  have O5:=zf (kb.obj (fun e=>e) O4.out);have H5:=zf (H4.out.chg kb (fun _ _ e=>e));have K5:=zf (K4.out.trans kb);clear kb O4 H4 K4 htm hts;generalize Yp sp=told at *;go_wp2_with fail;(with_reducible refine SO.out.mono ?_);rintro e w6 ⟨va,m,hpw,hmem,k6,hres⟩;have hml:m.length<=2:=Xh (hpw.imp (fun {a b} q e=>by subst e;rw [show ZY a a=false from ZF _] at q;cases q)) (fun x hx=>(hmem x).1 hx);have hm1:1<=m.length:=List.length_pos_of_mem ((hmem sp).2 (by simp));rcases hres with ⟨_,_,rfl,hva⟩ | ⟨hn,_⟩
  ·have O6:=zf (k6.obj (fun e=>e) O5.out)
   have H6:=zf (H5.out.chg k6 (fun _ _ e=>e));have K6:=zf (K5.out.trans k6);have RES:=zf (DS.out m h2 (fun x=>by rw [hmem];simp));have SS:=zgo w6 _ va fr m _ _ H6.out.at_ hva (by omega) (by omega);rw [RES.out] at SS;have SS:=zf SS;obtain ⟨va1,va2,rfl,_,_⟩:=hva;have q3:w6.cell? ⟨w.heap.size,3,none⟩=some (.slice sa fr.length sc):=zg O6.out rfl;clear k6 O5 H5 K5 hpw hmem SO q2;go_wp2_with fail;(with_reducible refine SS.out.mono ?_);rintro e w7 ⟨rfl,k7⟩;go_wp2;go_ret;exact ⟨rfl,K6.out.trans k7⟩
  ·exact (hn ⟨hm1,by omega⟩).elim
 ·have g1:decide ((zI sp.data.toList:Int) < 2)=true:=zlx (by omega)
  have R:=zf (DF.out h2);(with_reducible refine W0.out.mono ?_);rintro e w1 ⟨rfl,rfl⟩;clear h2;go_wp2;go_ret;exact ⟨by rw [R.out];rfl,K0.out⟩
theorem Tryz.sizeCert:(Tryz.prog.info? 103).map (·.size)=some 7:=by kernel_rfl
end Go.Proofs.YtcilaocknhphnaaGreat
