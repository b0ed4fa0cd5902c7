/-
  Package reach: Path, Walk; what Path tells.
-/
import Derived.Test.YthdfplafihmejaaGreatZtCLike
import Derived.Shelf.SlicesQ.Reverse
import Derived.Ground.SlgnProg
namespace Go.Proofs.YthdfplafihmejaaGreat
open Go.RowKit Go.Maps Go.Shelf Go.Lib Go.Sort
shelf_lay_g SlLaysE0.n35 Slgn 35 at Tryz 139 as Tryz.reverseStep
def zbV (x:Nat × Nat):List Value:=[.int .i64 (x.1:Int),.int .i64 (x.2:Int)]
theorem zku {w:World} {base:Nat} {e:TypeId} {size n cap g:Nat} {xs:List Value} (h:w.ownsRow base e size (.slice (some ⟨g,0,none⟩) n cap) n xs) (F:Array Value) (hF:F.size=n*size) (q:Nat):
  (putRow id (Sort.ahead w q) g 0 F).ownsRow base e size (.slice (some ⟨g,0,none⟩) n cap) n F.toList∧Chg (·=g) w (putRow id (Sort.ahead w q) g 0 F):=by
 obtain ⟨h1,⟨h2,_⟩ | ⟨g',cap',cur,h2,hb,hg,q1,q2,q3,q4⟩⟩:=h
 ·simp at h2
 ·simp only [Value.slice.injEq,Option.some.injEq,Addr.mk.injEq,and_true,true_and] at h2
  obtain ⟨rfl,rfl⟩:=h2;refine ⟨⟨by simpa using hF,.inr ⟨g,cap,putCells id 0 F cur,rfl,hb,?_,q1,q2,by simp [putCells,q3],?_⟩⟩,⟨rfl,rfl,rfl,by simp [Sort.ahead],fun k hk hne=>?_⟩⟩
  ·show (w.heap.modify g (onCells (putCells id 0 F)))[g]? = _
   rw [Array.getElem?_modify,if_pos rfl,hg];rfl
  ·apply List.ext_getElem?
   intro t;have hle:n*size<=cap*size:=Nat.mul_le_mul_right _ q1;by_cases ht:t < n*size
   ·rw [List.getElem?_take_of_lt ht,Array.getElem?_toList,Array.getElem?_toList]
    unfold putCells;rw [Array.getElem?_mapIdx,Array.getElem?_eq_getElem (by omega),Array.getElem?_eq_getElem (show t < F.size by omega)];simp [show t < F.size by omega]
   ·rw [zrg (by rw [zq5];omega),zrg (by simp;omega)]
  ·show (w.heap.modify g (onCells (putCells id 0 F)))[k]? = _
   rw [Array.getElem?_modify,if_neg (fun e=>hne e.symm)]
theorem zey (l:List (Nat × Nat)):(flatK zbV 2 l.toArray).toList=yq l:=by
 apply List.ext_getElem?;intro t;have hl:=zaA l;by_cases ht:t < 2*l.length
 ·have hk:t / 2 < l.length:=by omega
  have hc:=zbo l (t / 2) _ (zq0 hk);rw [Array.getElem?_toList,Array.getElem?_eq_getElem (by simp;omega)]
  have e1:(flatK zbV 2 l.toArray)[t]'(by simp;omega)=(zbV l[t / 2])[t % 2]!:=by
   simp [flatK,hk]
  rw [e1];generalize l[t / 2]=c at *;rcases Nat.mod_two_eq_zero_or_one t with h | h
  ·rw [h]
   have:=hc.1;rw [show 2*(t / 2)=t by omega] at this;rw [this];rfl
  ·rw [h]
   have:=hc.2;rw [show 2*(t / 2)+1=t by omega] at this;rw [this];rfl
 ·rw [zrg (by simp;omega),zrg (by omega)]
theorem zf4 (w:World) (base g cap:Nat) (l:List (Nat × Nat)) (h:w.ownsRow base 153 2 (.slice (some ⟨g,0,none⟩) l.length cap) l.length (yq l)) (hl:l.length<=1000000):
  Calls Tryz.prog 139 #[.slice (some ⟨g,0,none⟩) l.length cap] w fun e w'=>e=.returned (.tuple #[])∧w'.ownsRow base 153 2 (.slice (some ⟨g,0,none⟩) l.length cap) l.length (yq l.reverse)∧Chg (·=g) w w':=by
 have hH:HoldsK zbV 2 w g 0 l.toArray:=by
  intro j hj;rw [size_flatK] at hj;simp only [List.size_toArray] at hj;refine ⟨?_,h.frozenAt _⟩;rw [Nat.zero_add,h.cellAt j (by omega),<- zey,Array.getElem?_toList,Array.getElem?_eq_getElem (by simp;omega),getElem!_pos _ _ (by simp;omega)];rfl
 have:=AnyQ.slices_Reverse Tryz.reverseStep 2 Tryz.isAgg153 Tryz.sizeOf153 zbV (fun _=>rfl) (fun x v hv=>by simp [zbV] at hv;rcases hv with rfl | rfl <;> rfl) g 0 cap l.toArray w hH (by simp;omega);rw [List.size_toArray] at this;refine this.mono fun e w' ⟨he,n,hw⟩=>?_;subst hw;obtain ⟨q1,q2⟩:=zku h (flatK zbV 2 l.toArray.reverse) (by simp) n;refine ⟨he,?_,q2⟩;rw [List.reverse_toArray] at q1;unfold putRowK;rw [List.reverse_toArray];rw [zey] at q1;exact q1
theorem zii (w:World) (base:Nat) (v:Value) (l:List (Nat × Nat)) (h:w.ownsRow base 153 2 v l.length (yq l)) (hl:l.length<=1000000):
  Calls Tryz.prog 139 #[v] w fun e w'=>e=.returned (.tuple #[])∧w'.ownsRow base 153 2 v l.length (yq l.reverse)∧Chg (fun k=>v.ownBlock=some k) w w':=by
 rcases Nat.eq_zero_or_pos l.length with h0 | h0
 ·obtain ⟨a,c,rfl⟩:=zl h
  rw [h0];refine (AnyQ.slices_Reverse_empty Tryz.reverseStep a c w).mono fun e w' ⟨he,hw⟩=>?_;subst hw;obtain rfl:l=[]:=List.eq_nil_of_length_eq_zero h0;exact ⟨he,h,Chg.refl _ _⟩
 ·obtain ⟨a,c,rfl⟩:=zl h
  obtain ⟨g,rfl⟩:=ZA h h0;refine (zf4 w base g c l h hl).mono fun e w' ⟨he,ho,hc⟩=>⟨he,ho,hc.mono (fun k _ e=>by rw [e];rfl)⟩
theorem zea:∀ (r:List Ent) (k:Nat),k < r.length->(Xn r)[3*k]? = some (.int .i64 (YX r k).2.1)∧(Xn r)[3*k+1]? = some (.int .i64 ((YX r k).2.2.1:Int))∧(Xn r)[3*k+2]? = some (.int .i64 ((YX r k).2.2.2:Int))
 | [],k,h=>by simp at h
 | a :: t,0,h=>by unfold Xn;rw [List.flatMap_cons];exact ⟨rfl,rfl,rfl⟩
 | a :: t,k+1,h=>by
  obtain ⟨h1,h2,h3⟩:=zea t k (by simpa using h);have e:Xn (a :: t)=[.int .i64 a.2.1,.int .i64 (a.2.2.1:Int),.int .i64 (a.2.2.2:Int)]++Xn t:=by unfold Xn;rw [List.flatMap_cons]
  have ee:YX (a :: t) (k+1)=YX t k:=rfl;rw [e,ee];refine ⟨?_,?_,?_⟩
  ·rw [List.getElem?_append_right (by simp;omega)];simpa [show 3*(k+1) - 3=3*k by omega] using h1
  ·rw [List.getElem?_append_right (by simp;omega)];simpa [show 3*(k+1)+1 - 3=3*k+1 by omega] using h2
  ·rw [List.getElem?_append_right (by simp;omega)];simpa [show 3*(k+1)+2 - 3=3*k+2 by omega] using h3
theorem zpd {W:World} {base:Nat} {X:RB} {r:List Ent} (h:zfO W base X r) {i:Nat} (hi:i < r.length):∃ g c,X.fv=.slice (some ⟨g,0,none⟩) r.length c∧W.cell? ⟨g,i*3,none⟩=some (.int .i64 (YX r i).2.1)∧W.cell? ⟨g,i*3+1,none⟩=some (.int .i64 ((YX r i).2.2.1:Int))∧W.cell? ⟨g,i*3+1+1,none⟩=some (.int .i64 ((YX r i).2.2.2:Int)):=by
 have ho:=h.hf;obtain ⟨a,c,e⟩:=zl ho;rw [e] at ho;obtain ⟨g,rfl⟩:=ZA ho (by omega);obtain ⟨q1,q2,q3⟩:=zea r i hi;refine ⟨g,c,e,?_,?_,?_⟩
 ·rw [ho.cellAt _ (by omega),Nat.mul_comm];exact q1
 ·rw [ho.cellAt _ (by omega),Nat.mul_comm];exact q2
 ·rw [ho.cellAt _ (by omega),Nat.mul_comm];exact q3
section
variable {w:World} {v:Value} {R:List zF} {s:ByteArray} {b:Int}
set_option maxRecDepth 100000 in
theorem znK (hA:zbA w v R s) (t:ByteArray) {k:Int} (h:zH R s b=k) (hk:k≠0):Calls Tryz.prog 123 #[v,.string s,.string t,.int .i64 b] w fun e w'=>e=.returned (.tuple #[.slice none 0 0,.int .i64 k])∧Chg (fun _=>False) w w':=by
 have W:=ze (zdU hA h hk);have g:(k != 0)=true:=by rw [zre];exact hk
 obtain ⟨la,cap,rfl,_,_⟩:=hA.rules;clear hA h hk;go_enter Tryz.func123,Tryz.ntmps123;go_wp2_with fail;(with_reducible refine W.out.mono ?_);rintro e w' ⟨rfl,kc⟩;go_wp2;go_ret2;exact ⟨rfl,kc⟩
set_option maxRecDepth 100000 in
theorem zl6 (hA:zbA w v R s) (t:ByteArray) (ht:t.size<=maxLen) (h:zH R s b=0) {r:List Ent} (hr:zdz R s b=some r) (hin:t.data.toList ∉ zv r):Calls Tryz.prog 123 #[v,.string s,.string t,.int .i64 b] w fun e w'=>e=.returned (.tuple #[.slice none 0 0,.int .i64 10])∧Chg (fun _=>False) w w':=by
 have W:=ze (zcJ hA h hr);have HZI:=ze Tryz.zeroInt;have KEY:=ze (zhY t ht);obtain ⟨la,cap,rfl,_,_⟩:=hA.rules;have LK:=ze (zfr hin);clear hA h hr hin;go_enter Tryz.func123,Tryz.ntmps123;go_wp2_with fail;(with_reducible refine W.out.mono ?_);rintro e w' ⟨X,rfl,hX,kc⟩;have c2:w'.cell? ⟨X.b,2,none⟩=some (.map (some X.bm)):=zf hX.hb rfl;have HX:=ze hX;clear hX;go_wp2_with (at_lookup;refine YK rfl (.tmp 29) (.tmp 30) 210 rfl 57 3 .i64 Tryz.wordKeyed Tryz.underlying210 Tryz.underlying3 (HZI.out _) X.bm r.length _ rfl HX.out.hm _ (.string t.data.toList) rfl KEY.out 0 ?d1 false ?d2 ?dnext)
 case d1=>(rw [LK.out]);try rfl
 case d2=>(rw [LK.out]);try rfl
 go_wp2;go_ret2;exact ⟨rfl,kc⟩
set_option maxHeartbeats 1000000 in
set_option maxRecDepth 100000 in
theorem zpl (hA:zbA w v R s) (t:ByteArray) (ht:t.size<=maxLen) (h:zH R s b=0) {r:List Ent} (hr:zdz R s b=some r) (hin:t.data.toList∈zv r):
  Calls Tryz.prog 123 #[v,.string s,.string t,.int .i64 b] w fun e w'=>∃ va,e=.returned (.tuple #[va,.int .i64 0])∧w'.ownsRow w.heap.size 153 2 va (Yi r ((zv r).idxOf t.data.toList)).length (yq (Yi r ((zv r).idxOf t.data.toList)))∧Chg (fun _=>False) w w':=by
 have W:=ze (zcJ hA h hr);have HZI:=ze Tryz.zeroInt;have KEY:=ze (zhY t ht);obtain ⟨h1,_⟩:=Zb h;obtain ⟨m1,m2,m3,m4⟩:=ZE h1;obtain ⟨s1,s2,s3⟩:=XG (by omega) hr;obtain ⟨la,cap,rfl,_,_⟩:=hA.rules;have LK:=ze (za0 hin);have FR:=ze (zf1 hr);have hil:(zv r).idxOf t.data.toList < r.length:=by rw [<- Zm];exact List.idxOf_lt_length_of_mem hin
 generalize (zv r).idxOf t.data.toList=i0 at *;have PW:=ze ((zcR FR.out i0 hil).2);have hrl:r.length<=5000:=by omega
 clear hA h hr hin h1 m1 m2 m3 m4 s1 s2 s3;go_enter Tryz.func123,Tryz.ntmps123;go_wp2_with fail;(with_reducible refine W.out.mono ?_);rintro e w1 ⟨X,rfl,hX,kc⟩;have c2:w1.cell? ⟨X.b,2,none⟩=some (.map (some X.bm)):=zf hX.hb rfl;have HX:=ze hX;have KC:=ze kc;clear hX kc W;go_wp2_with (at_lookup;refine YK rfl (.tmp 29) (.tmp 30) 210 rfl 57 3 .i64 Tryz.wordKeyed Tryz.underlying210 Tryz.underlying3 (HZI.out _) X.bm r.length _ rfl HX.out.hm _ (.string t.data.toList) rfl KEY.out ((i0:Nat):Int) ?c1 true ?c2 ?next)
 case c1=>rw [LK.out];rfl
 case c2=>rw [LK.out];rfl
 clear c2;go_wp2;go_loopw [12,14] (fun iv lv wr=>∃ (k:Nat) (L:List (Nat × Nat)),k<=i0∧iv=.int .i64 k∧Hid (Yi r i0=Yi r k++L.reverse∧L.length<=5000∧wr.ownsRow w1.heap.size 153 2 lv L.length (yq L)∧Chg (fun _=>False) w1 wr)) (fun iv _ _=>(intOf iv).toNat)
 case atStart=>exact ⟨i0,[],zrj _,rfl,ze ⟨by simp,by simp,World.ownsRow_nil _ _ _ _,Chg.refl _ _⟩⟩
 case round=>
  obtain ⟨k,L,hk,rfl,HI⟩:=hrel;have ho:=HI.out.2.2.1;have hLl:=HI.out.2.1;obtain ⟨a14,c14,e14⟩:=zl ho;subst e14;have HO:=ze ho;have hc:=HI.out.2.2.2;have hsz:=hc.size;clear ho;by_cases hk0:0 < k
  ·obtain ⟨j,hjk,hj1,hj2⟩:=FR.out.back k hk0 (by omega)
   have PS:=ze (zeh FR.out (by omega) hk0 hj1 hjk);have hXr:=zbv.chg HX.out hc (fun _ _ e=>e);have c1:wr.cell? ⟨X.b,1,none⟩=some X.fv:=zf hXr.hb rfl;obtain ⟨gf,cf,ef,f0,f1,f2⟩:=zpd hXr (show k < r.length by omega);rw [ef] at c1;rw [hj1] at f0;generalize (YX r k).2.2=st at *;have x1:=(zbv.own_lt HX.out (.inl rfl)).2;have x2:=(zbv.own_lt HX.out (.inr (.inr (.inr (show X.fv.ownBlock=some gf by rw [ef];rfl))))).2;have GK:=ze (show ∀ W,Chg (fun x=>w1.heap.size<=x) wr W->W.cell? ⟨X.b,1,none⟩=some (.slice (some ⟨gf,0,none⟩) r.length cf)∧W.cell? ⟨gf,k*3,none⟩=some (.int .i64 (j:Int)) from fun W h=>⟨zj h (by omega) c1,zj h (by omega) f0⟩);have HC:=ze hc;have g0:decide (0 < (k:Int))=true:=by rw [decide_eq_true_eq];omega
   have hkr:k < r.length:=by omega
   clear hc hXr ef hj1 hj2;obtain ⟨st1,st2⟩:=st;simp only at f1 f2;go_wp2_with (at_builtin;refine XD rfl (.tmp 38) (.tmp 47) 81 rfl 153 2 16 Tryz.underlying81 Tryz.elemStep w1.heap.size _ _ _ rfl (HO.out.alloc _) _ 1 [.int .i64 (st1:Int),.int .i64 (st2:Int)] 153 (0,0) rfl (zh _ _) rfl ?n1 ?n2 ?n3 ?n4 ?next2)
   case n1=>intro u hu;simp at hu;rcases hu with rfl | rfl <;> rfl
   case n2=>omega
   case n3=>unfold maxLen;omega
   case n4=>simp;omega
   intro v2 w2 o2 g2;have k2:Chg (fun x=>w1.heap.size<=x) wr w2:=(zi (fun x=>w1.heap.size<=x) wr (.cells #[.int .i64 (st1:Int),.int .i64 (st2:Int)] 153)).next (Chg.of_grown g2) (fun x hx e=>(HO.out.lt x e).1)
   obtain ⟨d1,d0⟩:=GK.out _ k2;clear c1 f0 f1 f2;go_wp2;go_roundw
   case rel=>
    refine ⟨j,L++[(st1,st2)],by omega,rfl,ze ⟨?_,?_,?_,HC.out.next k2 (fun x hx e=>by omega)⟩⟩
    ·rw [HI.out.1,PS.out];simp
    ·have h1:=PW.out
     rw [HI.out.1,PS.out] at h1;simp at h1 ⊢;omega
    ·rw [zq3,zaB];exact o2
   case measure=>simp [intOf];omega
  ·obtain rfl:k=0:=by omega
   have PE:=ze (show Yi r i0=L.reverse by rw [HI.out.1,zeg];rfl);have REV:=ze (zii wr w1.heap.size _ L HO.out (by omega));have HC:=ze hc;clear hc;go_wp2_with fail;(with_reducible refine REV.out.mono ?_);rintro e w2 ⟨rfl,o2,k2⟩;go_wp2;go_ret2;refine ⟨_,rfl,?_,?_⟩
   ·rw [PE.out,List.length_reverse]
    exact xE o2 KC.out.size
   ·refine (KC.out.trans HC.out).next k2 (fun x hx e=>?_)
    have:=(HO.out.lt x e).1;have:=KC.out.size;omega
end
def znp (o:Option Wd):Value:=match o with
 | none=>.tuple #[.string ⟨#[]⟩,.int .i64 10]
 | some u=>.tuple #[.string (bar u),.int .i64 0]
theorem zlm (w:World) (la lv:Option Addr) (n c m d:Nat) (s:ByteArray) (hs:s.size<=maxLen) (h:Zp s.data.toList=false):
  Calls Tryz.prog 105 #[.slice la n c,.string s,.slice lv m d] w fun e w'=>e=.returned (.tuple #[.string ⟨#[]⟩,.int .i64 2])∧Chg (fun _=>False) w w':=by
 have MAY:=ze (zap w s hs);rw [h] at MAY;clear h;go_enter Tryz.func105,Tryz.ntmps105;go_wp2_with fail;(with_reducible refine MAY.out.mono ?_);rintro e w' ⟨rfl,kc⟩;go_wp2;go_ret2;exact ⟨rfl,kc⟩
set_option maxHeartbeats 2000000 in
set_option maxRecDepth 100000 in
theorem zno (w:World) (v lv:Value) (R:List zF) (L:List (Int × Int)) (s:ByteArray) (hv:zX w v (· < w.heap.size) R) (hl:Yl w lv (· < w.heap.size) L) (hmay:Zp s.data.toList=true):
  Calls Tryz.prog 105 #[v,.string s,lv] w fun e w'=>e=.returned (znp (Xj (R.map Zw) s.data.toList L))∧Chg (fun _=>False) w w':=by
 have HV:=ze hv;have HL:=ze hl;obtain ⟨la,cap,rfl,hl0,_⟩:=hv;obtain ⟨lb,lcap,rfl,hl1,_⟩:=hl;have hs8:=Zn hmay;have MAY:=ze (zap w s (by unfold maxLen;omega));rw [hmay] at MAY;have HMAY:=ze hmay;clear hmay;unfold maxLen at hl0 hl1;go_enter Tryz.func105,Tryz.ntmps105;go_wp2_with fail;(with_reducible refine MAY.out.mono ?_);rintro e w1 ⟨rfl,k1⟩;have K1:=ze k1;clear k1;go_wp2;go_loopw [1,18] (fun sv iv wr=>∃ (u:ByteArray) (k:Nat),k<=L.length∧sv=.string u∧iv=.int .i64 k∧Hid (Xj (R.map Zw) s.data.toList (L.take k)=some u.data.toList∧Zp u.data.toList=true∧Chg (fun _=>False) w wr)) (fun _ iv _=>L.length - (intOf iv).toNat)
 case atStart=>exact ⟨s,0,by omega,rfl,rfl,ze ⟨rfl,HMAY.out,K1.out⟩⟩
 case round=>
  obtain ⟨u,k,hk,rfl,rfl,HI⟩:=hrel;have hu8:=Zn HI.out.2.1;by_cases hlt:k < L.length
  ·obtain ⟨⟨xa,xk⟩,hx⟩:∃ x,L[k]? = some x:=⟨_,zq0 hlt⟩
   have hlr:=HL.out.chg HI.out.2.2 (fun _ _ e=>e);have hvr:=HV.out.chg HI.out.2.2 (fun _ _ e=>e);obtain ⟨lb',lcap',e1,_,hcl⟩:=hlr;cases e1;obtain ⟨gb,go,rfl,hgb,c0,c1⟩:=hcl k _ hx
   have TK:=ze (show ∀ o,Ym (R.map Zw) u.data.toList (xa,xk)=o->Xj (R.map Zw) s.data.toList (L.take (k+1))=o from fun o ho=>by
    rw [zri,hx,Option.toList_some,zfe,HI.out.1];exact ho)
   have TN:=ze (show Ym (R.map Zw) u.data.toList (xa,xk)=none->Xj (R.map Zw) s.data.toList L=none from fun ho=>by
    have:=zad (R.map Zw) (L.take (k+1)) (L.drop (k+1)) s.data.toList (TK.out _ ho);rwa [zrd] at this)
   have hgs:gb < wr.heap.size:=zq7 hgb HI.out.2.2.size;have KR:=ze HI.out.2.2;simp only at c0 c1;clear hcl hx;have b0:(wr.alloc (.cells #[.int .i64 xa,.int .i64 xk] 153)).heap[wr.heap.size]? = some (.cells #[.int .i64 xa,.int .i64 xk] 153 (0,0)):=zh _ _;have K2:=ze (HI.out.2.2.alloc (.cells #[.int .i64 xa,.int .i64 xk] 153));have B0:=ze b0;clear b0;by_cases hx0:xk < 0
   ·have g0:decide (xk < 0)=true:=by rw [decide_eq_true_eq];exact hx0
    have RES:=ze (TN.out (Yd (fun q=>by have:=q.1;simp only at this;omega)));clear hx0;go_wp2;go_ret2;exact ⟨by rw [RES.out];rfl,K2.out⟩
   ·have g0:decide (xk < 0)=false:=by rw [decide_eq_false_iff_not];exact hx0
    obtain ⟨j,rfl⟩:∃ j:Nat,xk=j:=⟨xk.toNat,by omega⟩;by_cases hj:R.length<=j
    ·have g1:decide (R.length<=j)=true:=by rw [decide_eq_true_eq];exact hj
     have RES:=ze (TN.out (Yd (fun q=>by have:=q.2.1;simp only [zq4] at this;omega)));go_wp2;go_ret2;exact ⟨by rw [RES.out];rfl,K2.out⟩
    ·have g1:decide (R.length<=j)=false:=by rw [decide_eq_false_iff_not];exact hj
     have hjl:j < R.length:=by omega
     obtain ⟨⟨ra,rb⟩,hr⟩:∃ r,R[j]? = some r:=⟨_,zq0 (show j < R.length by omega)⟩;obtain ⟨la',cap',e1,_,hvl⟩:=hvr;cases e1;obtain ⟨ga,gc,rfl,hga,d0,d1,hra,hrb⟩:=hvl j _ hr;simp only at d0 d1 hra hrb;have RU:=ze (zic hr);have US:=ze (fun a=>zi2 hr u.data.toList a);have CNT:=ze (zc2 (wr.alloc (.cells #[.int .i64 xa,.int .i64 (j:Int)] 153)) (ra,rb) hra hrb);unfold zgU at CNT;simp only at CNT;have hgaw:ga < wr.heap.size:=zq7 hga KR.out.size;clear hvl hr;cases hc:Zx (Zw (ra,rb)) with
     | false=>
      rw [hc] at CNT;have RES:=ze (TN.out (Yd (fun q=>by have h:=q.2.2;simp only [Int.toNat_natCast] at h;rw [RU.out,hc] at h;cases h)));clear hc;go_wp2_with fail;(with_reducible refine CNT.out.mono ?_);rintro e w3 ⟨rfl,k3⟩;go_wp2;go_ret2;exact ⟨by rw [RES.out];rfl,K2.out.trans k3⟩
     | true=>
      rw [hc] at CNT;obtain ⟨m1,m2,m3⟩:=(Xf _).1 hc;simp only [Zw] at m1 m2 m3;have SA:=Zn m1;have SB:=Zn m2;have PA:=xj m1;rw [zA] at PA;have NP:=ze (fun h=>TN.out (zbD (w:=u.data.toList) (x:=(xa,(j:Int))) (by simp only [Int.toNat_natCast];rw [RU.out];exact h)));have HC:=ze hc;clear hc m1 m2;go_wp2_with fail;(with_reducible refine CNT.out.mono ?_);rintro e w3 ⟨rfl,k3⟩;have b3:=k3.obj (fun e=>e) B0.out;have d0':w3.cell? ⟨ga,gc+j*2,none⟩=some (.string ra):=zj k3 (fun e=>e) (zj (zi (fun _=>False) wr _) (fun e=>e) d0);have d1':w3.cell? ⟨ga,gc+j*2+1,none⟩=some (.string rb):=zj k3 (fun e=>e) (zj (zi (fun _=>False) wr _) (fun e=>e) d1);have e0:w3.cell? ⟨wr.heap.size,0,none⟩=some (.int .i64 xa):=zf b3 rfl;have e1:w3.cell? ⟨wr.heap.size,1,none⟩=some (.int .i64 (j:Int)):=zf b3 rfl;have hsz3:wr.heap.size < w3.heap.size:=by have:=k3.size;simp at this;omega
      have K3:=ze (K2.out.trans k3);clear d0 d1 b3 k3 CNT c0 c1;go_wp2_with fail;have K4:=ze (K3.out.alloc (.cells #[.string ra,.string rb] 66));have b4:=zh w3 (.cells #[.string ra,.string rb] 66);have f0:=zj (zi (fun _=>False) w3 (.cells #[.string ra,.string rb] 66)) (fun e=>e) e0;generalize w3.alloc (.cells #[.string ra,.string rb] 66)=w4 at *;have p0:w4.cell? ⟨w3.heap.size,0,none⟩=some (.string ra):=zf b4 rfl;have p1:w4.cell? ⟨w3.heap.size,1,none⟩=some (.string rb):=zf b4 rfl;clear d0' d1' e0 e1 b4;have LEN:=ze (fun n=>ZO (w4.drewN n) u (by unfold maxLen;omega));have LENA:=ze (fun w=>ZO w ra (by unfold maxLen;omega));have hue:u.size=2*zz u.data.toList:=by unfold zz;rw [zA];omega
      have hae:ra.size=2*zz ra.data.toList:=by unfold zz;rw [zA];omega
      by_cases hx1:xa < 0
      ·have g2:decide (xa < 0)=true:=by rw [decide_eq_true_eq];exact hx1
       have RES:=ze (NP.out (fun q=>by omega));clear hx1;go_quiet (fail);rename_i nq;go_wp2;go_ret2;exact ⟨by rw [RES.out];rfl,K4.out.drewN nq⟩
      ·have g2:decide (xa < 0)=false:=by rw [decide_eq_false_iff_not];exact hx1
       obtain ⟨i,rfl⟩:∃ i:Nat,xa=i:=⟨xa.toNat,by omega⟩;by_cases hi:zz u.data.toList<=i
       ·have g3:decide (zz u.data.toList<=i)=true:=by rw [decide_eq_true_eq];exact hi
        have RES:=ze (NP.out (fun q=>by have:=q.2.1;simp only [Zw] at this;omega));generalize zz u.data.toList=N at *;go_quiet ((go_at_call 80;exact YP LEN.out));rename_i nq;go_wp2;go_ret2;exact ⟨by rw [RES.out];rfl,K4.out.drewN nq⟩
       ·have g3:decide (zz u.data.toList<=i)=false:=by rw [decide_eq_false_iff_not];exact hi
        have FND:=ze (fun n=>zjA (w4.drewN n) u ra i (by omega) (by omega) (by omega) (by omega) (by omega));have FI:=ze (@zmA u.data.toList ra.data.toList i);by_cases hf:xH u.data.toList ra.data.toList i=i
        ·rw [hf] at FND
         have g4:((i:Int) != (i:Int))=false:=by simp
         obtain ⟨f1,f2⟩:=FI.out.1 hf
         have ST:Ym (R.map Zw) u.data.toList ((i:Int),(j:Int))=some (yi u.data.toList i (zz ra.data.toList) rb.data.toList):=by
          unfold Ym;rw [if_pos]
          ·simp only [Int.toNat_natCast];rw [US.out]
          ·refine ⟨by simp only;omega,by simp only [zq4];omega,?_,by simp only;omega,?_,?_⟩
           ·simp only [Int.toNat_natCast];rw [RU.out];exact HC.out
           ·simp only [Int.toNat_natCast];rw [RU.out];simp only [Zw];omega
           ·simp only [Int.toNat_natCast];rw [RU.out];exact f2
         have TKO:=ze (TK.out _ ST);have SM:=ze (zd1 HI.out.2.1 ST)
         have SW:=ze (fun w=>zh4 w u rb i (zz ra.data.toList) (by omega) (by omega) (by omega) (by omega) f1 (by
          have:zz u.data.toList<=8:=by omega
          omega))
         clear hf ST f2;generalize hsw:yi u.data.toList i (zz ra.data.toList) rb.data.toList=uw at *;have HSW:=ze hsw;clear hsw hi f1 hue hae m3;generalize zz u.data.toList=N at *;generalize zz ra.data.toList=M at *;go_quiet ((first | (go_at_call 80;exact YP LEN.out) | (go_at_call 129;exact YP FND.out)));rename_i nq;go_wp2_with fail;have K5:=ze (K4.out.drewN nq);have f0':(w4.drewN nq).cell? ⟨wr.heap.size,0,none⟩=some (.int .i64 (i:Int)):=f0;have p0':(w4.drewN nq).cell? ⟨w3.heap.size,0,none⟩=some (.string ra):=p0;have p1':(w4.drewN nq).cell? ⟨w3.heap.size,1,none⟩=some (.string rb):=p1;generalize w4.drewN nq=w5 at *;clear LEN FND f0 p0 p1;go_quiet ((first | (go_at_call 80;exact YP (fun n=>LENA.out _)) | (go_at_call 130;exact yK (fun n=>SW.out _))));have K6:=ze (K5.out.drewN nq);go_wp2;go_roundw
         case rel=>exact ⟨_,k+1,by omega,rfl,by go_num,ze ⟨by rw [TKO.out],SM.out.1,K6.out⟩⟩
         case measure=>simp [intOf];omega
        ·have g4:(xH u.data.toList ra.data.toList i != (i:Int))=true:=by rw [zre];exact hf
         have RES:=ze (NP.out (fun q=>hf (FI.out.2 ⟨by have:=q.2.1;simp only [Zw] at this;omega,by have:=q.2.2;simpa [Zw] using this⟩)));clear hf;generalize xH u.data.toList ra.data.toList i=fi at *;generalize zz u.data.toList=N at *;go_quiet ((first | (go_at_call 80;exact YP LEN.out) | (go_at_call 129;exact YP FND.out)));rename_i nq;go_wp2;go_ret2;exact ⟨by rw [RES.out];rfl,K4.out.drewN nq⟩
  ·obtain rfl:k=L.length:=by omega
   have RES:=ze (show Xj (R.map Zw) s.data.toList L=some u.data.toList by have:=HI.out.1;rwa [zrk] at this);go_wp2;go_ret2;exact ⟨by rw [RES.out];unfold znp;simp only;rw [zhy];rfl,HI.out.2.2⟩
def ZU (R:List zF) (s t:ByteArray) (b:Int):Int:=if zH R s b=0 then (if t.data.toList∈zv (zeT R s b) then 0 else 10) else zH R s b
def xT (R:List zF) (s t:ByteArray) (b:Int):List (Int × Int):=if ZU R s t b=0 then (Yi (zeT R s b) ((zv (zeT R s b)).idxOf t.data.toList)).map fun h=>((h.1:Int),(h.2:Int)) else []
end Go.Proofs.YthdfplafihmejaaGreat
