/-
  Package set: Same; Of of two words. Package set: Of: words sorted, each once (slices.SortFunc and Compact by the shelf's contracts).
-/
import Derived.Test.YthdfplafihmejaaGreatZtCMap
import Derived.Shelf.SlSortCmp.Whole1
import Derived.Shelf.SlicesE.Compact
import Derived.Shelf.SlGeneric
import Derived.Shelf.Lay
import Derived.Ground.SlsfProg
import Derived.Ground.SlgnProg
namespace Go.Proofs.YthdfplafihmejaaGreat
open Go.RowKit Go.Maps
theorem zoX:Keyed Tryz.prog 57:=string_keyed Tryz.underlying57
theorem zhX (s:ByteArray) (h:s.size<=maxLen):keyOf Tryz.prog 57 (.string s)=some (.string s.data.toList):=WideMaps.keyOf_string_mk Tryz.underlying57 h
open Classical in
noncomputable def inF (l:List ByteArray):Lit->Option Value:=fun kl=>if ∃ s∈l,kl=.string s.data.toList then some (.agg #[]) else none
theorem zal {a b:ByteArray} (h:a.data.toList=b.data.toList):a=b:=by
 cases a;cases b;simp only [ByteArray.mk.injEq];exact Array.toList_inj.1 h
theorem zkQ (l:List ByteArray) (s:ByteArray):(inF l (.string s.data.toList)).isSome=Xw l s:=by
 unfold inF Xw;by_cases h:s∈l
 ·rw [if_pos ⟨s,h,rfl⟩,zqY h];rfl
 ·rw [if_neg,zqZ h]
  ·rfl
  ·rintro ⟨u,hu,e⟩
   rw [Lit.string.injEq] at e;exact h (by rw [zal e];exact hu)
theorem zpx:(fun _=>none)=inF []:=by
 funext kl
 unfold inF;rw [if_neg];rintro ⟨u,hu,_⟩;cases hu
theorem zpw (l:List ByteArray) (s:ByteArray):zoE (inF l) (.string s.data.toList) (some (.agg #[]))=inF (l++[s]):=by
 funext kl
 by_cases h:kl=.string s.data.toList
 ·subst h
  rw [zec];unfold inF;rw [if_pos ⟨s,by simp,rfl⟩]
 ·rw [zcP _ h]
  unfold inF;by_cases q:∃ u∈l,kl=.string u.data.toList
  ·obtain ⟨u,hu,e⟩:=q
   rw [if_pos ⟨u,hu,e⟩,if_pos ⟨u,List.mem_append_left _ hu,e⟩]
  ·rw [if_neg q,if_neg]
   rintro ⟨u,hu,e⟩;rcases zrc.1 hu with hu | hu
   ·exact q ⟨u,hu,e⟩
   ·rw [List.mem_singleton] at hu
    subst hu;exact h e
theorem zpr (w:World) (n:Int):(Instr.makeMap 201 (some (.int .i64 n))).run Tryz.prog w=.ok (.map (some w.heap.size)) (w.alloc (.map #[] 0)):=by
 have h:(asInt (.int .i64 n)).run Tryz.prog w=.ok n w:=rfl;simp [Instr.makeMap,run_underlying Tryz.underlying201,h]
set_option maxHeartbeats 1000000 in
set_option maxRecDepth 100000 in
theorem zcH (w:World) (av bv:Value) (a b:List ByteArray) (G G':Nat->Prop) (ha:zx w av G a) (hb:zx w bv G' b) (hlb:b.length<=1000):
  Calls Tryz.prog 116 #[av,bv] w fun e w'=>e=.returned (.bool (a.all (Xw b)))∧Chg (fun _=>False) w w':=by
 have HA:=ze ha;have HB:=ze hb;obtain ⟨aa,acap,rfl,hl0,_⟩:=ha;obtain ⟨ba,bcap,rfl,hl1,_⟩:=hb;unfold maxLen at hl0 hl1;go_enter Tryz.func116,Tryz.ntmps116;have M0:=ze (show zeV Tryz.prog 57 (w.alloc (.map #[] 0)) w.heap.size 0 (inF []) from by rw [<- zpx];exact zeV.made _ _ _);have hws:w.heap.size<=w.heap.size:=zrj _;have HZU:=ze (fun w:World=>(show (zeroValue 202).run Tryz.prog w=.ok (.agg #[]) w from by kernel_rfl));have hmk:=zpr w (b.length:Int);go_wp2;go_loopw [17] (fun iv wr=>∃ k:Nat,k<=b.length∧iv=.int .i64 k∧Hid ((∃ m,m<=k∧zeV Tryz.prog 57 wr w.heap.size m (inF (b.take k)))∧Chg (fun _=>False) w wr)) (fun iv _=>b.length - (intOf iv).toNat)
 case atStart=>exact ⟨0,by omega,rfl,ze ⟨⟨0,zrj _,M0.out⟩,zi _ _ _⟩⟩
 case round=>
  obtain ⟨k,hk,rfl,HI⟩:=hrel;clear M0;by_cases hlt:k < b.length
  ·obtain ⟨x,hx⟩:∃ x,b[k]? = some x:=⟨_,zq0 hlt⟩
   obtain ⟨_,_,e1,_,hcl⟩:=HB.out.chg HI.out.2 (fun _ _ e=>e);cases e1;obtain ⟨lb,lo,rfl,_,c0,hxs⟩:=hcl k x hx;obtain ⟨⟨m,hmk,hM⟩,hC⟩:=HI.out;have MV:=ze hM;have KC:=ze hC;have TK:=ze (show b.take (k+1)=b.take k++[x] by rw [zri,hx];rfl);have KEY:=ze (zhX x hxs);clear hcl hx hM hC HI hxs;go_wp2_with (at_mapUpdate;refine zan rfl (.tmp 21) (.tmp 22) (.tmp 23) 201 rfl 57 202 zoX Tryz.underlying201 w.heap.size m _ rfl MV.out ?c1 (.string x) (.agg #[]) (.string x.data.toList) rfl rfl KEY.out ?next)
   case c1=>unfold maxLen;omega
   case next=>
    intro w3 m3 hm3 _ _ hm3k hc3;rw [zpw,<- TK.out] at hm3;have K3:=ze (KC.out.next hc3 (fun x hx e=>by omega));have M3:=ze (show ∃ m,m<=k+1∧zeV Tryz.prog 57 w3 w.heap.size m (inF (b.take (k+1))) from ⟨_,by omega,hm3⟩);clear hm3 hc3 MV KC c0;go_wp2;go_roundw
    case rel=>exact ⟨k+1,by omega,by go_num,ze ⟨M3.out,K3.out⟩⟩
    case measure=>simp [intOf];omega
  ·obtain rfl:k=b.length:=by omega
   obtain ⟨⟨m,_,hM⟩,hC⟩:=HI.out;rw [zrk] at hM;have M2:=ze hM;have K2:=ze hC;clear HI hM hC;generalize wr=wo at *;go_wp2;go_loopw [27] (fun iv wr=>∃ k:Nat,k<=a.length∧iv=.int .i64 k∧Hid ((a.take k).all (Xw b)=true∧Chg (fun _=>False) wo wr)) (fun iv _=>a.length - (intOf iv).toNat)
   case atStart=>exact ⟨0,by omega,rfl,ze ⟨rfl,Chg.refl _ _⟩⟩
   case round=>
    obtain ⟨k,hk,rfl,HI⟩:=hrel;by_cases hlt:k < a.length
    ·obtain ⟨x,hx⟩:∃ x,a[k]? = some x:=⟨_,zq0 hlt⟩
     obtain ⟨_,_,e1,_,hcl⟩:=HA.out.chg (K2.out.trans HI.out.2) (fun _ _ e=>e);cases e1;obtain ⟨lb,lo,rfl,_,c0,hxs⟩:=hcl k x hx;have MV:=ze (M2.out.chg HI.out.2 (fun e=>e));have KI:=ze HI.out.2
     have AL:=ze (show (a.take (k+1)).all (Xw b)=Xw b x from by
      rw [zri,hx,List.all_append,HI.out.1];simp)
     have AF:=ze (show Xw b x=false->a.all (Xw b)=false from fun h=>by
      rw [List.all_eq_false];exact ⟨x,zq2 hx,by rw [h];simp⟩)
     have KEY:=ze (zhX x hxs);have IS:=ze (zkQ b x)
     have VAL:=ze (show (inF b (.string x.data.toList)).getD (.agg #[])=.agg #[] from by
      unfold inF;split <;> rfl)
     clear hcl hx HI hxs;cases hh:Xw b x with
     | true=>
      rw [hh] at AL IS;clear AF hh;go_wp2_with (at_lookup;refine YL rfl (.tmp 32) (.tmp 33) 201 rfl 57 202 zoX Tryz.underlying201 (.agg #[]) (HZU.out _) w.heap.size m _ rfl MV.out (.string x) (.string x.data.toList) rfl KEY.out (.agg #[]) true VAL.out IS.out ?n2a);go_roundw
      case rel=>exact ⟨k+1,by omega,by go_num,ze ⟨AL.out,(KI.out.alloc (.cells #[] 202))⟩⟩
      case measure=>simp [intOf];omega
     | false=>
      rw [hh] at IS;have R:=ze (AF.out hh);clear AF hh AL;go_wp2_with (at_lookup;refine YL rfl (.tmp 32) (.tmp 33) 201 rfl 57 202 zoX Tryz.underlying201 (.agg #[]) (HZU.out _) w.heap.size m _ rfl MV.out (.string x) (.string x.data.toList) rfl KEY.out (.agg #[]) false VAL.out IS.out ?n2b);go_ret;exact ⟨by rw [R.out];rfl,K2.out.trans (KI.out.alloc (.cells #[] 202))⟩
    ·obtain rfl:k=a.length:=by omega
     have R:=ze (show a.all (Xw b)=true from by have:=HI.out.1;rwa [zrk] at this);have KI:=ze HI.out.2;clear HI;go_wp2;go_ret;exact ⟨by rw [R.out];rfl,K2.out.trans KI.out⟩
theorem zlG (w:World) (av bv:Value) (a b:List ByteArray) (G G':Nat->Prop) (ha:zx w av G a) (hb:zx w bv G' b) (hla:a.length<=1000) (hlb:b.length<=1000):
  Calls Tryz.prog 133 #[av,bv] w fun e w'=>e=.returned (.bool (a.all (Xw b) && b.all (Xw a)))∧Chg (fun _=>False) w w':=by
 have W1:=ze (zcH w av bv a b G G' ha hb hlb);have W2:=ze (fun w1 (k:Chg (fun _=>False) w w1)=>zcH w1 bv av b a G' G (hb.chg k (fun _ _ e=>e)) (ha.chg k (fun _ _ e=>e)) hla);obtain ⟨aa,acap,rfl,hl0,_⟩:=ha;obtain ⟨ba,bcap,rfl,hl1,_⟩:=hb;generalize a.all (Xw b)=r at *;generalize b.all (Xw a)=q at *;go_enter Tryz.func133,Tryz.ntmps133;cases r with
 | false=>
  go_wp2_with fail;(with_reducible refine W1.out.mono ?_);rintro e w2 ⟨rfl,k2⟩;go_wp2;go_ret;exact ⟨rfl,k2⟩
 | true=>
  go_wp2_with fail;(with_reducible refine W1.out.mono ?_);rintro e w2 ⟨rfl,k2⟩;have W3:=ze (W2.out w2 k2);have K2:=ze k2;clear k2 W1 W2;go_wp2_with fail;(with_reducible refine W3.out.mono ?_);rintro e w3 ⟨rfl,k3⟩;go_wp2;go_ret;exact ⟨rfl,K2.out.trans k3⟩
end Go.Proofs.YthdfplafihmejaaGreat
namespace Go.Proofs
open Go.Shelf
shelf_lay_g SlLaysF.n6 Slsf 6 at Tryz 150 as Tryz.laysSortF
shelf_lay_g SlLaysE.n43 Slgn 43 at Tryz 152 as Tryz.laysCompact
end Go.Proofs
namespace Go.Proofs.YthdfplafihmejaaGreat
open Go.RowKit Go.Maps Go.Shelf Go.Lib Go.Sort
theorem zlk {l:List ByteArray} {j:Nat} {x:ByteArray} (h:l[j]? = some x):(zK l)[j]? = some (.string x):=by
 unfold zK;rw [zrb,h];rfl
def zop (a b:ByteArray):Int:=if ye a.data.toList b.data.toList=true then -1 else if ye b.data.toList a.data.toList=true then 1 else 0
theorem ziI (w:World) (a b:ByteArray):Calls Tryz.prog 151 #[.string a,.string b] w fun e w'=>e=.returned (.int .i64 (zop a b))∧w=w':=by
 have L1:=ze (zdQ w a b);have L2:=ze (zdQ w b a);have R:=ze (show zop a b=if ye a.data.toList b.data.toList=true then -1 else if ye b.data.toList a.data.toList=true then 1 else 0 from rfl);generalize ye a.data.toList b.data.toList=p at *;generalize ye b.data.toList a.data.toList=q at *;go_enter Tryz.func151,Tryz.ntmps151;cases p with
 | true=>
  go_wp2_with fail;(with_reducible refine L1.out.mono ?_);rintro e w2 ⟨rfl,rfl⟩;go_wp2;go_ret;exact ⟨by rw [R.out];rfl,rfl⟩
 | false=>
  go_wp2_with fail;(with_reducible refine L1.out.mono ?_);rintro e w2 ⟨rfl,rfl⟩;go_wp2_with fail;(with_reducible refine L2.out.mono ?_);rintro e w3 ⟨rfl,rfl⟩;cases q
  all_goals
   go_wp2;go_ret;exact ⟨by rw [R.out];rfl,rfl⟩
theorem zgo (a b:ByteArray):ltOf zop a b=Yf a b:=by
 unfold ltOf zop Yf;cases ye a.data.toList b.data.toList with
 | true=>rfl
 | false=>cases ye b.data.toList a.data.toList <;> rfl
theorem zoo:SWO (ltOf zop) where
 irrefl x:=by rw [zgo];exact yH _
 trans x y z h1 h2:=by rw [zgo] at *;exact yY h1 h2
 ntrans x y z h1 h2:=by
  rw [zgo] at *;rw [<- zrn];intro h;cases q:Yf y x with
  | true=>
   have:=yY q h;rw [show ye y.data.toList z.data.toList=false from h2] at this;cases this
  | false=>
   have e:=zal (Xr (show ye x.data.toList y.data.toList=false from h1) q);subst e;rw [h2] at h;cases h
theorem zo5 {w:World} {g n:Nat} {e:TypeId} {cur:Array Value} (ys:List ByteArray) (hg:w.heap[g]? = some (.cells cur e (0,0))) (hy:ys.length=n) (hc:n<=cur.size) (q:Nat) (os:Array Obj):
  (grow (putRow Value.string (Sort.ahead w q) g 0 ys.toArray) os).heap[g]? = some (.cells ((ys.map Value.string)++cur.toList.drop n).toArray e (0,0))∧Chg (·=g) w (grow (putRow Value.string (Sort.ahead w q) g 0 ys.toArray) os):=by
 have hlt:=zr hg
 have h1:(putRow Value.string (Sort.ahead w q) g 0 ys.toArray).heap[g]? = some (.cells (putCells Value.string 0 ys.toArray cur) e (0,0)):=by
  show (w.heap.modify g (onCells _))[g]? = _;rw [Array.getElem?_modify,if_pos rfl,hg];rfl
 have h2:putCells Value.string 0 ys.toArray cur=((ys.map Value.string)++cur.toList.drop n).toArray:=by
  apply Array.ext
  ·simp [putCells];omega
  ·intro i h3 h4
   simp only [putCells,Array.size_mapIdx] at h3;simp only [putCells,Array.getElem_mapIdx,List.getElem_toArray];by_cases hi:i < n
   ·rw [if_pos ⟨by omega,by simp;omega⟩,List.getElem_append_left (by simp;omega)]
    simp [hy,hi]
   ·rw [if_neg (by simp;omega),List.getElem_append_right (by simp;omega)]
    simp [hy]
    congr 1;omega
 refine ⟨?_,?_⟩
 ·rw [heap_grow_old _ os (by rw [size_putRow];exact hlt),h1,h2]
 ·have hz:=size_putRow Value.string (Sort.ahead w q) g 0 ys.toArray
  refine ⟨rfl,rfl,rfl,by rw [grow,Array.size_append,hz];show w.heap.size<=w.heap.size+os.size;omega,fun k hk hne=>?_⟩;rw [heap_grow_old _ os (by rw [size_putRow];exact hk)];show (w.heap.modify g (onCells _))[k]? = _;rw [Array.getElem?_modify,if_neg (fun e=>hne e.symm)]
structure zoP (w:World) (base g cap:Nat) (l:List ByteArray):Prop where
 row:∃ cs,w.heap[g]? = some (.cells cs 57 (0,0))∧cs.size=cap∧∀ (j:Nat) x,l[j]? = some x->cs[j]? = some (.string x)
 len:l.length<=cap
 max:cap<=maxLen
 base:base<=g
theorem znk {w:World} {base g cap:Nat} {l:List ByteArray} (h:w.ownsRow base 57 1 (.slice (some ⟨g,0,none⟩) l.length cap) l.length (zK l)):zoP w base g cap l:=by
 have h0:=h;obtain ⟨_,⟨q,_⟩ | ⟨g',cap',cur,q,hb,hh,h1,h2,h3,h4⟩⟩:=h
 ·cases q
 ·cases q
  refine ⟨⟨cur,hh,by omega,fun j x hj=>?_⟩,h1,h2,hb⟩;have hl:=(zq1.1 hj).1;have:=h0.cellAt j (by omega);rw [zlk hj] at this;have hc:j < cur.size:=by omega
  have e2:w.cell? ⟨g,j,none⟩=some cur[j]:=zf hh (Array.getElem?_eq_getElem hc);rw [e2] at this;rw [Array.getElem?_eq_getElem hc];exact this
theorem zoP.holds {w:World} {base g cap:Nat} {l:List ByteArray} (h:zoP w base g cap l):Holds Value.string w g 0 l.toArray:=by
 obtain ⟨cs,h1,h2,h3⟩:=h.row;intro j hj;have hj:j < l.length:=by simpa using hj
 refine ⟨?_,zm h1⟩;rw [Nat.zero_add,zf h1 (h3 j _ (zq0 hj)),getElem!_pos _ j (by simpa using hj)];simp
theorem zoP.words {w:World} {base g cap n:Nat} {l:List ByteArray} (h:zoP w base g cap l) (hs:∀ x∈l,x.size<=maxLen) (hn:n=l.length) (c:Nat):zx w (.slice (some ⟨g,0,none⟩) n c) (fun k=>k=g) l:=by
 obtain ⟨cs,h1,h2,h3⟩:=h.row;subst hn;exact ⟨_,c,rfl,Nat.le_trans h.len h.max,fun j x hj=>⟨g,0,rfl,rfl,by rw [Nat.zero_add];exact zf h1 (h3 j x hj),hs x (zq2 hj)⟩⟩
theorem zoP.put {w:World} {base g cap:Nat} {l:List ByteArray} (h:zoP w base g cap l) (ys:List ByteArray) (hy:ys.length=l.length) (m:List ByteArray) (hm:∀ (j:Nat) x,m[j]? = some x->ys[j]? = some x) (hml:m.length<=ys.length) (q:Nat) (os:Array Obj):
  zoP (grow (putRow Value.string (Sort.ahead w q) g 0 ys.toArray) os) base g cap m∧Chg (·=g) w (grow (putRow Value.string (Sort.ahead w q) g 0 ys.toArray) os):=by
 obtain ⟨cs,h1,h2,h3⟩:=h.row;have hl:=h.len;obtain ⟨r1,r2⟩:=zo5 ys h1 rfl (by omega) q os;refine ⟨⟨⟨_,r1,by simp;omega,fun j x hj=>?_⟩,by omega,h.max,h.base⟩,r2⟩;have hx:=hm j x hj;have hjl:=(zq1.1 hx).1;rw [zqV,List.getElem?_append_left (by simpa using hjl),zrb,hx];rfl
theorem zc3 {d:Array ByteArray} (hs:SortedIn (ltOf zop) 0 d.size d):∀ k,k<=d.size->(compactUpTo d k).Pairwise (fun a b=>Yf a b=true)∧(∀ x,x∈compactUpTo d k↔∃ j,j < k∧d[j]! = x)
 | 0,_=>⟨by simp [compactUpTo],fun x=>by simp [compactUpTo]⟩
 | k+1,hk=>by
  obtain ⟨h1,h2⟩:=zc3 hs k (by omega);rw [compactUpTo_succ]
  have le:∀ i j,i<=j->j < d.size->Yf d[j]! d[i]! = false:=fun i j hij hj=>by
   rcases Nat.lt_or_ge i j with q | q
   ·have:=hs i j (Nat.zero_le _) q hj
    rwa [zgo] at this
   ·obtain rfl:i=j:=by omega
    exact yH _
  cases hkp:keeps d k with
  | true=>
   rw [if_pos rfl];refine ⟨?_,fun x=>?_⟩
   ·rw [List.pairwise_append]
    refine ⟨h1,List.pairwise_singleton _ _,fun x hx y hy=>?_⟩;rw [List.mem_singleton] at hy;subst hy;obtain ⟨j,hj,rfl⟩:=(h2 x).1 hx;have hkk:k=0∨d[k]!≠d[k - 1]!:=of_decide_eq_true hkp
    have hne:d[k]!≠d[k - 1]!:=by
     rcases hkk with q | q
     ·omega
     ·exact q
    cases q:Yf d[j]! d[k]! with
    | true=>rfl
    | false=>
     exfalso;have a1:=le j (k - 1) (by omega) (by omega);have a2:=le (k - 1) k (by omega) (by omega);apply hne;cases r:Yf d[k - 1]! d[k]! with
     | false=>exact zal (Xr a2 r)
     | true=>
      have:Yf d[j]! d[k]! = true:=by
       cases s:Yf d[j]! d[k - 1]! with
       | true=>exact yY s r
       | false=>
        have e:=zal (Xr s a1);rw [e];exact r
      rw [q] at this;cases this
   ·rw [zrc,h2,List.mem_singleton]
    constructor
    ·rintro (⟨j,hj,e⟩ | e)
     ·exact ⟨j,by omega,e⟩
     ·exact ⟨k,by omega,e.symm⟩
    ·rintro ⟨j,hj,e⟩
     rcases Nat.lt_or_ge j k with q | q
     ·exact .inl ⟨j,q,e⟩
     ·obtain rfl:j=k:=by omega
      exact .inr e.symm
  | false=>
   rw [if_neg (by simp),List.append_nil];have hkk:¬ (k=0∨d[k]!≠d[k - 1]!):=of_decide_eq_false hkp;have h0:k≠0:=fun e=>hkk (.inl e);have he:d[k]! = d[k - 1]!:=Classical.byContradiction fun q=>hkk (.inr q);refine ⟨h1,fun x=>?_⟩;rw [h2];constructor
   ·rintro ⟨j,hj,e⟩
    exact ⟨j,by omega,e⟩
   ·rintro ⟨j,hj,e⟩
    rcases Nat.lt_or_ge j k with q | q
    ·exact ⟨j,q,e⟩
    ·obtain rfl:j=k:=by omega
     exact ⟨j - 1,by omega,by rw [<- he];exact e⟩
theorem zip {d d':Array ByteArray} (h:PermIn 0 d.size d d'):d'.toList.Perm d.toList:=by
 obtain ⟨h1,_,h3⟩:=h;have e1:d'.extract 0 d.size=d':=by rw [<- h1];simp
 have e2:d.extract 0 d.size=d:=by simp
 rwa [e1,e2] at h3
theorem ziJ {d:Array ByteArray} (hs:SortedIn (ltOf zop) 0 d.size d) (x:ByteArray):x∈compactUpTo d d.size↔x∈d.toList:=by
 rw [(zc3 hs d.size (zrj _)).2];constructor
 ·rintro ⟨j,hj,rfl⟩
  rw [getElem!_pos _ j hj];exact zq2 (i:=j) (by simp [hj])
 ·intro h
  obtain ⟨j,hj⟩:=List.mem_iff_getElem?.1 h;have hl:=(zq1.1 hj).1;have hl:j < d.size:=by simpa using hl
  refine ⟨j,hl,?_⟩;rw [getElem!_pos _ j hl]
  simpa [hl] using hj
theorem zjX (w:World) (g o n c:Nat) (G:Nat->Prop) (l:List ByteArray) (hv:zx w (.slice (some ⟨g,o,none⟩) n c) G l) (hl:l.length<=1000):
  Calls Tryz.prog 149 #[.slice (some ⟨g,o,none⟩) n c] w fun e w'=>∃ v,e=.returned v∧w'.ownsRow w.heap.size 57 1 v l.length (zK l)∧Chg (fun _=>False) w w':=by
 have SRC:=ze (zac hv);obtain ⟨la,cap,e,hl0,_⟩:=hv;cases e;have EQN:=fun w=>Lib.run_eql_slice_nil (P:=Tryz.prog) w 25 _ (some ⟨g,o,none⟩) l.length c 0 0 Tryz.underlying25;go_enter Tryz.func149,Tryz.ntmps149;go_wp2_with (at_builtin;refine zV rfl (.tmp 5) (.tmp 6) 25 rfl 57 1 16 Tryz.underlying25 Tryz.elemWord w.heap.size _ 0 [] rfl (ZH _ _ _ _ (zrj _)) (some ⟨g,o,none⟩) l.length c (zK l) rfl ?a1 ?a2 ?a3 ?a4 ?a5 ?a6 ?a7 ?nx1)
 case a1=>unfold zK;rw [zq4];omega
 case a2=>
  intro j u hj;obtain ⟨g',o',e,c1⟩:=SRC.out j u hj;exact ⟨g',o',e,zj (zi (fun _=>False) w _) (fun e=>e) c1⟩
 case a3=>intro e;cases e
 case a4=>exact Yz l
 case a5=>omega
 case a6=>unfold maxLen;omega
 case a7=>simp
 intro v8 w8 o8 g8;obtain ⟨a8,c8,rfl⟩:=zl o8
 have k8:Chg (fun _=>False) w w8:=(zi (fun _=>False) w (.cells #[] 57)).next (Chg.of_grown g8) (fun x hx e=>by
  have e2:w.heap.size=x:=by simpa [Value.ownBlock] using e
  omega)
 have K8:=ze k8;have O8:=ze (show w8.ownsRow w.heap.size 57 1 (.slice a8 (0+l.length) c8) l.length (zK l) from by simpa using o8);clear o8 g8 k8;go_wp2;go_ret;exact ⟨_,rfl,(by have:=O8.out;rw [Nat.zero_add] at this;exact this),K8.out⟩
theorem zlj (w:World) (g n c:Nat) (hn:n<=c):Calls Tryz.prog 153 #[.slice (some ⟨g,0,none⟩) n c] w fun e w'=>e=.returned (.slice (some ⟨g,0,none⟩) n n)∧w=w':=by
 go_enter Tryz.func153,Tryz.ntmps153;go_wp2;go_ret;exact ⟨rfl,rfl⟩
def zgu (w:World) (l:List ByteArray) (e:Ending) (w':World):Prop:=
 ∃ va m,m.Pairwise (fun a b=>Yf a b=true)∧(∀ x,x∈m↔x∈l)∧Chg (fun _=>False) w w'∧((1<=m.length∧m.length<=16∧e=.returned (.tuple #[va,.int .i64 0])∧zx w' va (fun k=>w.heap.size<=k∧k < w'.heap.size) m)∨(¬ (1<=m.length∧m.length<=16)∧e=.returned (.tuple #[.slice none 0 0,.int .i64 3])))
theorem zh9 {w w':World} {l m:List ByteArray} {va:Value} (h1:m.Pairwise (fun a b=>Yf a b=true)) (h2:∀ x,x∈m↔x∈l) (hc:Chg (fun _=>False) w w') (h3:1<=m.length) (h4:m.length<=16) (hw:zx w' va (fun k=>w.heap.size<=k∧k < w'.heap.size) m):zgu w l (.returned (.tuple #[va,.int .i64 0])) w':=⟨va,m,h1,h2,hc,.inl ⟨h3,h4,rfl,hw⟩⟩
theorem zgQ {w w':World} {l m:List ByteArray} (h1:m.Pairwise (fun a b=>Yf a b=true)) (h2:∀ x,x∈m↔x∈l) (hc:Chg (fun _=>False) w w') (h3:¬ (1<=m.length∧m.length<=16)):zgu w l (.returned (.tuple #[.slice none 0 0,.int .i64 3])) w':=⟨.slice none 0 0,m,h1,h2,hc,.inr ⟨h3,rfl⟩⟩
theorem zqI (P:Program) (T:TypeId):EqlAt P T Value.string (fun x y:ByteArray=>decide (x=y)):=by
 have:=EqlAt.string P T;rwa [show (fun x y:ByteArray=>x.toList == y.toList)=fun x y=>decide (x=y) from funext fun x=>funext fun y=>xC x y] at this
theorem zqD (P:Program) (T:TypeId):NeqAt P T Value.string (fun x y:ByteArray=>decide (x=y)):=by
 have:=NeqAt.string P T;rwa [show (fun x y:ByteArray=>x.toList == y.toList)=fun x y=>decide (x=y) from funext fun x=>funext fun y=>xC x y] at this
set_option maxHeartbeats 2000000 in
set_option maxRecDepth 100000 in
theorem zlB (w:World) (g o n c:Nat) (G:Nat->Prop) (l:List ByteArray) (hv:zx w (.slice (some ⟨g,o,none⟩) n c) G l) (hl1:1<=l.length) (hl:l.length<=1000) (hm:∀ x∈l,Zp x.data.toList=true):
  Calls Tryz.prog 132 #[.slice (some ⟨g,o,none⟩) n c] w (zgu w l):=by
 have HV:=ze hv;have HM:=ze hm;obtain ⟨_,_,e,hl0,hcl⟩:=hv;cases e
 have SZ:=ze (show ∀ x∈l,x.size<=maxLen from fun x hx=>by
  obtain ⟨j,hj⟩:=List.mem_iff_getElem?.1 hx;obtain ⟨_,_,_,_,_,q⟩:=hcl j x hj;exact q)
 clear hcl hm;unfold maxLen at hl0;go_enter Tryz.func132,Tryz.ntmps132;go_wp2;go_loopw [9] (fun iv wr=>∃ k:Nat,k<=l.length∧iv=.int .i64 k∧Hid (Chg (fun _=>False) w wr)) (fun iv _=>l.length - (intOf iv).toNat)
 case atStart=>exact ⟨0,by omega,rfl,ze (Chg.refl _ _)⟩
 case round=>
  obtain ⟨k,hk,rfl,HI⟩:=hrel;by_cases hlt:k < l.length
  ·obtain ⟨x,hx⟩:∃ x,l[k]? = some x:=⟨_,zq0 hlt⟩
   obtain ⟨_,_,e1,_,hcl⟩:=HV.out.chg HI.out (fun _ _ e=>e);cases e1;obtain ⟨lb,lo,e2,_,c0,hxs⟩:=hcl k x hx;cases e2;have MY:=zap wr x hxs;rw [HM.out x (zq2 hx)] at MY;have MY:=ze MY;clear hcl hx hxs;go_wp2_with fail;(with_reducible refine MY.out.mono ?_);rintro e w2 ⟨rfl,k2⟩;have K2:=ze (HI.out.trans k2);clear k2 MY;go_wp2;go_roundw
   case rel=>exact ⟨k+1,by omega,by go_num,K2⟩
   case measure=>simp [intOf];omega
  ·obtain rfl:k=l.length:=by omega
   have CL:=ze (zjX wr g o l.length c G l (HV.out.chg HI.out (fun _ _ e=>e)) hl);have hsw:w.heap.size<=wr.heap.size:=HI.out.size;go_wp2_with fail;(with_reducible refine CL.out.mono ?_);rintro e w2 ⟨va,rfl,ho,k2⟩;have K2:=ze (HI.out.trans k2);obtain ⟨a2,cap,rfl⟩:=zl ho;obtain ⟨g2,rfl⟩:=ZA ho (by omega);have W2:=ze (znk ho);have hcap:=W2.out.len;have hcm:=W2.out.max;have hg2:w.heap.size<=g2:=Nat.le_trans hsw W2.out.base
   have hgl:g2 < w2.heap.size:=by
    obtain ⟨cs,q,_⟩:=W2.out.row;exact zr q
   have ST:=Any.slices_SortFunc Tryz.laysSortF Value.string (fun _=>rfl) zop zoo 151 #[] g2 0 cap l.toArray w2 (enters_of Tryz.func151 (by kernel_rfl) rfl) (CmpReads.lays fun m os dk _ x y=>(ziI _ x y).mono fun e w' ⟨he,hw⟩=>⟨he,0,by rw [<- hw];rfl⟩) W2.out.holds hgl (by simp;omega);change Calls Tryz.prog 150 #[.slice (some ⟨g2,0,none⟩) l.length cap,.func (.func 151) #[] #[]] w2 _ at ST;have ST:=ze ST;clear ho k2 CL;go_wp2_with fail;(with_reducible refine ST.out.mono ?_);rintro e w3 ⟨rfl,d',q,os,hperm,hsorted,hw3⟩;have hd:d'.size=l.length:=by have:=hperm.1;simpa using this
   have hpl:d'.toList.Perm l:=zip hperm;have hso:SortedIn (ltOf zop) 0 d'.size d':=by rw [hd];have:=hsorted;simpa using this
   have w3b:w3=grow (putRow Value.string (Sort.ahead w2 q) g2 0 d'.toList.toArray) os:=by rw [hw3];simp [sortWorld]
   obtain ⟨W3,k3⟩:=W2.out.put d'.toList (by simp [hd]) d'.toList (fun _ _ h=>h) (zrj _) q os;rw [<- w3b] at W3 k3;have W3:=ze W3;have K3:=ze (show Chg (fun _=>False) w w3 from K2.out.next k3 (fun x hx e=>by omega))
   have hg3:g2 < w3.heap.size:=by
    obtain ⟨cs,r,_⟩:=W3.out.row;exact zr r
   have hz3:∀ w,(zeroValue 57).run Tryz.prog w=.ok (Value.string ⟨#[]⟩) w:=fun _=>by kernel_rfl
   have hH3:Holds Value.string w3 g2 0 d':=by have:=W3.out.holds;simpa using this
   have CP:=AnyE.slices_Compact Tryz.laysCompact Value.string (fun _=>rfl) (zqI _ _) (zqD _ _) (⟨#[]⟩:ByteArray) hz3 g2 0 cap d' w3 hH3 (by omega) (by omega);change Calls Tryz.prog 152 #[.slice (some ⟨g2,0,none⟩) d'.size cap] w3 _ at CP;rw [hd] at CP;have hcm1:=zc3 hso d'.size (zrj _);have hcm2:=ziJ hso;rw [hd] at hcm1 hcm2;have hml:(compactUpTo d' l.length).length<=l.length:=zbn (hcm1.1.imp (fun {a b} q e=>by subst e;rw [show Yf a a=false from yH _] at q;cases q)) (fun x hx=>hpl.mem_iff.1 ((hcm2 x).1 hx));have PW:=ze hcm1.1;have MEM:=ze (show ∀ x,x∈compactUpTo d' l.length↔x∈l from fun x=>by rw [hcm2];exact hpl.mem_iff);clear hcm1 hcm2 hso hperm hsorted hw3 w3b k3 hpl K2 hH3 ST;generalize compactUpTo d' l.length=m at *;have CP:=ze CP;go_wp2_with fail;(with_reducible refine CP.out.mono ?_);rintro e w4 ⟨rfl,q4,hw4⟩;have hyl:(m++List.replicate (l.length - m.length) (⟨#[]⟩:ByteArray)).length=d'.toList.length:=by simp [hd];omega
   obtain ⟨W4,k4⟩:=W3.out.put (m++List.replicate (l.length - m.length) ⟨#[]⟩) hyl m (fun j x h=>by
    rw [List.getElem?_append_left (zq1.1 h).1];exact h) (by simp) q4 #[]
   rw [grow_empty,<- hw4] at W4 k4;have W4:=ze W4;have K4:=ze (show Chg (fun _=>False) w w4 from K3.out.next k4 (fun x hx e=>by omega))
   have hg4:g2 < w4.heap.size:=by
    obtain ⟨cs,r,_⟩:=W4.out.row;exact zr r
   have hmc:m.length<=cap:=by omega
   clear hyl k4 hw4 CP K3 W3;by_cases hb:1<=m.length∧m.length<=16
   ·have g1:decide ((m.length:Int) < 1)=false:=zqZ (by omega)
    have g2':decide (16 < (m.length:Int))=false:=zqZ (by omega);have CC:=ze (zlj w4 g2 m.length cap hmc);have FIN:=ze (zh9 PW.out MEM.out K4.out hb.1 hb.2 ((W4.out.words (fun x hx=>SZ.out x ((MEM.out x).1 hx)) rfl m.length).up (fun k hk=>by omega)));clear hb;go_wp2_with fail;(with_reducible refine CC.out.mono ?_);rintro e w5 ⟨rfl,rfl⟩;go_wp2;go_ret2;exact FIN.out
   ·have FIN:=ze (zgQ PW.out MEM.out K4.out hb)
    have P3:(decide ((m.length:Int) < 1)=true)∨(decide ((m.length:Int) < 1)=false∧decide (16 < (m.length:Int))=true):=by
     by_cases q:(m.length:Int) < 1
     ·exact .inl (zqY q)
     ·exact .inr ⟨zqZ q,zqY (by omega)⟩
    clear hb;rcases P3 with q1 | ⟨q1,q2⟩
    all_goals
     go_wp2;go_ret2;exact FIN.out
end Go.Proofs.YthdfplafihmejaaGreat
