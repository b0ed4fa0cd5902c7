/-
  Package proof: stand, owner, number. Package proof: number.
-/
import Derived.Test.YthdfplafihmejaaGreatZtUPlain
import Derived.Shelf.SlSorted.Search
import Derived.Shelf.Lay
import Derived.Ground.SlsoProg
import Derived.Test.YthdfplafihmejaaGreatZtURun
namespace Go.Proofs.YthdfplafihmejaaGreat
open Go.RowKit Go.Maps Go.Shelf Go.Lib Go.Sort
shelf_lay SlLaysO.n16 Slso 16 at Tryz as Tryz.searchLay
theorem zdH (S:Nat->Prop) (w:World) (q:Nat) (os:Array Obj):Chg S w (grow (w.drewN q) os):=
  ⟨rfl,rfl,rfl,by rw [grow,Array.size_append];show w.heap.size<=w.heap.size+os.size;omega,fun k hk _=>heap_grow_old (w.drewN q) os hk⟩
set_option maxHeartbeats 2000000 in
set_option maxRecDepth 100000 in
theorem zgO (w:World) (roots:Int) (bv sv:Value) (G:Nat->Prop) (l:zE) (n:Nat) (hl:Yl w sv G l) (hf:xe l) (h0:0<=roots) (hn:n<=1000000):
    Calls Tryz.prog 160 #[.agg #[.int .i64 roots,bv],sv,.int .i64 (n:Int)] w fun e w'=>e=.returned (.bool (yP roots n l))∧Chg (fun _=>False) w w':=by
  have KA:=ze (zi (fun _=>False) w (.cells #[.int .i64 roots,bv] 217));have OA:=ze (zh w (.cells #[.int .i64 roots,bv] 217));have HL:=ze hl;obtain ⟨la,cap,rfl,hl0,_⟩:=hl;unfold maxLen at hl0;have HF:=ze hf
  have YES:=ze (fun (q:∀ (j:Nat) s,l[j]? = some s->xO roots n s=true)=>show yP roots n l=true from zrh.2 (fun s hs=>by
    obtain ⟨j,hj⟩:=List.mem_iff_getElem?.1 hs;exact q j s hj))
  have NOT:=ze (fun (j:Nat) s (hj:l[j]? = some s) (q:xO roots n s=false)=>show yP roots n l=false from by
    cases hb:yP roots n l with
    | false=>rfl
    | true=>
      have:=zrh.1 hb s (zq2 hj);rw [q] at this;cases this)
  generalize yP roots n l=res at *;clear hf;go_enter Tryz.func160,Tryz.ntmps160;go_wp2;generalize w.alloc (.cells #[.int .i64 roots,bv] 217)=w1 at *;go_loopw [11] (fun iv wr=>∃ k:Nat,k<=l.length∧iv=.int .i64 k∧Hid ((∀ (j:Nat) s,j < k->l[j]? = some s->xO roots n s=true)∧Chg (fun _=>False) w1 wr)) (fun iv _=>l.length - (intOf iv).toNat)
  case atStart=>exact ⟨0,by omega,rfl,ze ⟨fun j s hj=>by omega,Chg.refl _ _⟩⟩
  case round=>
    obtain ⟨k,hk,rfl,HI⟩:=hrel;have ALL:=ze HI.out.1;have K1:=ze HI.out.2;clear HI;by_cases hlt:k < l.length
    · obtain ⟨⟨at_,r⟩,hx⟩:∃ s,l[k]? = some s:=⟨_,zq0 hlt⟩
      obtain ⟨_,_,e1,_,hcl⟩:=HL.out.chg (KA.out.trans K1.out) (fun _ _ e=>e);cases e1;obtain ⟨lb,lo,rfl,_,x0,x1⟩:=hcl k _ hx;obtain ⟨f1,f2⟩:=(HF.out _ (zq2 hx)).2;simp only at x0 x1 f1 f2;have kb:=zi (fun _=>False) wr (.cells #[.int .i64 at_,.int .i64 r] 153);have KB:=ze (K1.out.trans kb);have n0:=zf (o:=0) (KB.out.obj (fun e=>e) OA.out) rfl;have s1:=zf (o:=1) (zh wr (.cells #[.int .i64 at_,.int .i64 r] 153)) rfl
      have NX:=ze (show xO roots n (at_,r)=true->∀ (j:Nat) s,j < k+1->l[j]? = some s->xO roots n s=true from fun q j s hj hs=>by
        rcases Nat.lt_or_ge j k with z | z
        · exact ALL.out j s z hs
        · obtain rfl:j=k:=by omega
          rw [hx] at hs;cases hs;exact q)
      have NO:=ze (NOT.out k (at_,r) hx);clear hcl hx kb;by_cases h1:r < 0
      · have g1:decide (r < 0)=true:=zqY h1
        have R:=ze (NO.out (by unfold xO;simp only;rw [zqZ (by omega)];rfl));go_wp2;go_ret;exact ⟨by rw [R.out];rfl,KA.out.trans KB.out⟩
      have g1:decide (r < 0)=false:=zqZ h1;by_cases h2:roots<=r
      · have g2:decide (roots<=r)=true:=zqY h2
        have z1:IntKind.i64.wrap (r - roots)=r - roots:=by rw [IntKind.wrap_i64];omega
        by_cases h3:(n:Int)<=r - roots
        · have g3:decide ((n:Int)<=r - roots)=true:=zqY h3
          have R:=ze (NO.out (by unfold xO;simp only;rw [zqZ (p:=r < roots+n) (by omega)];simp));go_wp2;go_ret;exact ⟨by rw [R.out];rfl,KA.out.trans KB.out⟩
        · have g3:decide ((n:Int)<=r - roots)=false:=zqZ h3
          have R:=ze (NX.out (by unfold xO;simp only;rw [zqY (p:=0<=r) (by omega),zqY (p:=r < roots+n) (by omega)];rfl));go_wp2;go_roundw
          case rel=>exact ⟨k+1,by omega,by go_num,ze ⟨R.out,KB.out⟩⟩
          case measure=>simp [intOf];omega
      · have g2:decide (roots<=r)=false:=zqZ h2
        have R:=ze (NX.out (by unfold xO;simp only;rw [zqY (p:=0<=r) (by omega),zqY (p:=r < roots+n) (by omega)];rfl));go_wp2;go_roundw
        case rel=>exact ⟨k+1,by omega,by go_num,ze ⟨R.out,KB.out⟩⟩
        case measure=>simp [intOf];omega
    · obtain rfl:k=l.length:=by omega
      have R:=ze (YES.out (fun j s hj=>ALL.out j s (zq1.1 hj).1 hj));go_wp2;go_ret;exact ⟨by rw [R.out];rfl,KA.out.trans K1.out⟩
set_option maxRecDepth 100000 in
theorem zkt (W:World) (bn bq g i m bc x:Nat) (q:Int) (hi:i < m) (h1:W.cell? ⟨bn,1,none⟩=some (.slice (some ⟨g,0,none⟩) m bc)) (h2:W.cell? ⟨bq,0,none⟩=some (.int .i64 q)) (h3:W.cell? ⟨g,i,none⟩=some (.int .i64 (x:Int))):
    Calls Tryz.prog 163 (#[.int .i64 (i:Int)]++#[.pointer (some ⟨bn,0,none⟩),.pointer (some ⟨bq,0,none⟩)]) W fun e w'=>e=.returned (.bool (decide (q < (x:Int))))∧∃ k,w'=W.drewN k:=by
  have hiz:(i:Int) < (m:Int):=by omega
  generalize hb:decide (q < (x:Int))=b;go_enter Tryz.func163,Tryz.ntmps163;go_wp2_with fail;go_quiet (fail);rename_i nq;go_wp2;go_ret;exact ⟨by first | rfl | simp [hb],nq,rfl⟩
def zm9 (w:World) (o:Option Nat) (e:Ending) (w':World):Prop:=(∃ i:Nat,o=some i∧e=.returned (.tuple #[.int .i64 (i:Int),.bool true])∧Chg (fun _=>False) w w')∨(o=none∧e=.returned (.tuple #[.int .i64 0,.bool false])∧Chg (fun _=>False) w w')
theorem ze6 (B:List Nat) (q:Nat):(List.range B.length).countP (fun i=>!decide ((q:Int) < ((B.getD i 0:Nat):Int)))=B.countP (fun b=>decide (b<=q)):=by
  have h:B=(List.range B.length).map (fun i=>B.getD i 0):=by
    apply List.ext_getElem?;intro i;rw [zrb];by_cases hi:i < B.length
    · rw [List.getElem?_range hi,zq0 hi]
      show some B[i]=some (B.getD i 0);rw [zq6,zq0 hi];rfl
    · rw [zrg (by omega),zrg (by rw [List.length_range];omega)];rfl
  conv=>rhs;rw [h]
  rw [List.countP_map]
  congr 1
  funext i
  simp only [Function.comp];rw [<- decide_not,decide_eq_decide];omega
set_option maxHeartbeats 2000000 in
set_option maxRecDepth 100000 in
theorem zha (w:World) (roots r:Int) (B:List Nat) (ba:Option Addr) (bc base:Nat) (hrow:w.ownsRow base 3 1 (.slice ba B.length bc) B.length (Yj B)) (hs:B.Pairwise (· <= ·)) (h0:0<=roots) (hr:zcE r) (hl:0 < B.length) (hlen:B.length<=1000000)
    (hpos:roots<=r->1<=B.countP (fun b=>decide (b<=(r - roots).toNat))):
    Calls Tryz.prog 144 #[.agg #[.int .i64 roots,.slice ba B.length bc],.int .i64 r] w (zm9 w (Xq roots B r)):=by
  have ka:=zi (fun _=>False) w (.cells #[.int .i64 roots,.slice ba B.length bc] 217);have oa:=zh w (.cells #[.int .i64 roots,.slice ba B.length bc] 217);have n0:=zf (o:=0) oa rfl;by_cases h1:r < roots
  · have g1:decide (r < roots)=true:=zqY h1
    have e1:Xq roots B r=none:=by unfold Xq;rw [if_pos h1]
    rw [e1];have KA:=ze ka;clear hrow hs hpos ka oa hr;go_enter Tryz.func144,Tryz.ntmps144;go_wp2;go_ret2;exact .inr ⟨rfl,rfl,KA.out⟩
  have g1:decide (r < roots)=false:=zqZ h1;obtain ⟨g,rfl⟩:=ZA hrow hl;obtain ⟨q,hq⟩:∃ q:Nat,(r - roots)=(q:Int):=⟨(r - roots).toNat,by omega⟩
  have e1:Xq roots B r=some (B.countP (fun b=>decide (b<=q)) - 1):=by
    unfold Xq;rw [if_neg h1,hq];rfl
  have hp:=hpos (by omega);rw [hq] at hp;simp only [Int.toNat_natCast] at hp;have z1:IntKind.i64.wrap (r - roots)=(q:Int):=by rw [IntKind.wrap_i64,hq] <;> (obtain ⟨f1,f2⟩:=hr;omega)
  have kb:=zi (fun _=>False) (w.alloc (.cells #[.int .i64 roots,.slice (some ⟨g,0,none⟩) B.length bc] 217)) (.cells #[.int .i64 (q:Int)] 3);have cn:=zf (o:=1) (kb.obj (fun e=>e) oa) rfl;have oq:=zh (w.alloc (.cells #[.int .i64 roots,.slice (some ⟨g,0,none⟩) B.length bc] 217)) (.cells #[.int .i64 (q:Int)] 3);have cq:=zf (o:=0) oq rfl;rw [zq8] at cq
  have cc:∀ i,i < B.length->((w.alloc (.cells #[.int .i64 roots,.slice (some ⟨g,0,none⟩) B.length bc] 217)).alloc (.cells #[.int .i64 (q:Int)] 3)).cell? ⟨g,i,none⟩=some (.int .i64 ((B.getD i 0:Nat):Int)):=fun i hi=>by
    have h2:(Yj B)[i]? = some (.int .i64 ((B.getD i 0:Nat):Int)):=by
      unfold Yj;rw [zrb,zq0 hi,zq6,zq0 hi];rfl
    obtain ⟨_,_,e,_,hc⟩:=XY (zn (zn hrow ka (fun _ _ e=>e)) kb (fun _ _ e=>e));cases e;obtain ⟨g',e',_,c⟩:=hc i _ h2;cases e';exact c
  have eg:∀ args w,(callFunc 163 args).run Tryz.prog w=.ok (.enter 163 args) w:=enters_of Tryz.func163 (by kernel_rfl) rfl
  have hS:=Any.sort_Search Tryz.searchLay 163 #[.pointer (some ⟨w.heap.size,0,none⟩),.pointer (some ⟨w.heap.size+1,0,none⟩)] B.length (fun i=>decide ((q:Int) < ((B.getD i 0:Nat):Int))) ((w.alloc (.cells #[.int .i64 roots,.slice (some ⟨g,0,none⟩) B.length bc] 217)).alloc (.cells #[.int .i64 (q:Int)] 3)) eg (by omega)
    (fun m os i hi=>(zkt _ w.heap.size (w.heap.size+1) g i B.length bc (B.getD i 0) q hi (zj (zdH (fun _=>False) _ m os) (fun e=>e) cn) (zj (zdH (fun _=>False) _ m os) (fun e=>e) cq) (zj (zdH (fun _=>False) _ m os) (fun e=>e) (cc i hi))).mono
      fun _ _ ⟨he,k,hk⟩=>⟨he,k,#[],by rw [hk,grow_empty]⟩)
    (fun a b hab hb h=>by
      have h3:=of_decide_eq_true h
      have:B.getD a 0<=B.getD b 0:=by
        rcases Nat.eq_or_lt_of_le hab with rfl | hlt
        · exact zrj _
        · have:=List.pairwise_iff_getElem.1 hs a b (by omega) hb hlt
          rw [zq6,zq6,zq0 (by omega),zq0 hb];exact this
      exact zqY (by omega))
  rw [ze6] at hS;change Calls Tryz.prog 162 _ _ _ at hS;rw [e1];have KAB:=ze (ka.trans kb);generalize hcn:B.countP (fun b=>decide (b<=q))=cnt at *
  have z2:IntKind.i64.wrap ((cnt:Int) - 1)=((cnt - 1:Nat):Int):=by
    have:cnt<=B.length:=by rw [<- hcn];exact List.countP_le_length
    rw [IntKind.wrap_i64] <;> omega
  have n0b:=zf (o:=0) (kb.obj (fun e=>e) oa) rfl;have HS:=ze hS;clear hrow hs hpos ka kb oa oq cq cc eg hS hcn hr hp h1 hq e1;go_enter Tryz.func144,Tryz.ntmps144;go_wp2_with fail;(with_reducible refine HS.out.mono ?_);rintro e w2 ⟨rfl,m,os,rfl⟩;have K2:=ze (KAB.out.trans (zdH (fun _=>False) _ m os));go_wp2;go_ret2;exact .inl ⟨_,rfl,rfl,K2.out⟩
theorem zZ {w:World} {a k:Nat} {cs ds:Array Value} {t u:TypeId} {f g:Nat × Nat} (h:w.heap[a]? = some (.cells cs t f)) (h2:w.heap[k]? = some (.cells ds u g)) (hn:t≠u):a≠k:=by
  rintro rfl;rw [h] at h2;cases h2;exact hn rfl
def zna (w:World) (roots:Int) (C:List zq) (p:zL) (e:Ending) (w':World):Prop:=Chg (fun _=>False) w w' ∧
  ((yF roots C p∧∃ (ba:Option Addr) (bc:Nat),e=.returned (.tuple #[.agg #[.int .i64 roots,.slice ba (zN C p.items).length bc],.int .i64 0])∧w'.ownsRow w.heap.size 3 1 (.slice ba (zN C p.items).length bc) (zN C p.items).length (Yj (zN C p.items))) ∨
   (¬ yF roots C p∧e=.returned (.tuple #[.agg #[.int .i64 0,.slice none 0 0],.int .i64 2])))
structure zc9 (w wr:World) (roots:Int) (iv sv bv:Value) (B:List Nat):Prop where
  o0:wr.heap[w.heap.size]? = some (.cells #[iv,sv] 83 (0,0))
  o1:wr.heap[w.heap.size+1]? = some (.cells #[.int .i64 0,.slice none 0 0] 217 (0,0))
  o2:wr.heap[w.heap.size+2]? = some (.cells #[.int .i64 roots,bv] 217 (0,0))
  row:wr.ownsRow (w.heap.size+3) 3 1 bv B.length (Yj B)
  ch:Chg (fun _=>False) w wr
theorem zc9.chg {w wr w':World} {roots:Int} {iv sv bv:Value} {B:List Nat} (h:zc9 w wr roots iv sv bv B) (k:Chg (fun _=>False) wr w'):zc9 w w' roots iv sv bv B:=
  ⟨k.obj (fun e=>e) h.o0,k.obj (fun e=>e) h.o1,k.obj (fun e=>e) h.o2,zn h.row k (fun _ _ e=>e),h.ch.trans k⟩
theorem zc9.push {w wr w':World} {roots:Int} {iv sv bv bv':Value} {B:List Nat} {n:Nat} (h:zc9 w wr roots iv sv bv B) (hg:wr.grownBy w' bv.ownBlock) (ho:w'.ownsRow (w.heap.size+3) 3 1 bv' (B.length+1) (Yj B++[.int .i64 (n:Int)])):
    zc9 w (w'.setCell ⟨w.heap.size+2,1,none⟩ bv') roots iv sv bv' (B++[n]):=by
  have kg:=Chg.of_grown hg;have kc:=zG w' (w.heap.size+2) 1 bv';have low:∀ k,bv.ownBlock=some k->w.heap.size+3<=k:=fun k hk=>(h.row.lt k hk).1;refine ⟨kc.obj (by omega) (kg.obj (fun e=>by have:=low _ e;omega) h.o0),kc.obj (by omega) (kg.obj (fun e=>by have:=low _ e;omega) h.o1),zt (o:=1) (kg.obj (fun e=>by have:=low _ e;omega) h.o2) bv',?_,(h.ch.next kg (fun k hk e=>by have:=low _ e;omega)).next kc (fun k hk e=>by omega)⟩;rw [zq3];have e:Yj (B++[n])=Yj B++[.int .i64 (n:Int)]:=by simp [Yj]
  rw [e];exact zn ho kc (fun k hk e=>by have:=(ho.lt k hk).1;omega)
theorem zc9.grown {w wr w':World} {roots:Int} {iv sv bv:Value} {B:List Nat} (h:zc9 w wr roots iv sv bv B) (hg:wr.grownBy w' bv.ownBlock):w'.heap[w.heap.size+2]? = some (.cells #[.int .i64 roots,bv] 217 (0,0)):=
  (Chg.of_grown hg).obj (fun e=>by have:=(h.row.lt _ e).1;omega) h.o2
theorem ziu (w:World) (roots:Int) (iv sv:Value):zc9 w (((w.alloc (.cells #[iv,sv] 83)).alloc (.cells #[.int .i64 0,.slice none 0 0] 217)).alloc (.cells #[.int .i64 roots,.slice none 0 0] 217)) roots iv sv (.slice none 0 0) []:=by
  have k1:=zi (fun _=>False) w (.cells #[iv,sv] 83);have k2:=zi (fun _=>False) (w.alloc (.cells #[iv,sv] 83)) (.cells #[.int .i64 0,.slice none 0 0] 217);have k3:=zi (fun _=>False) ((w.alloc (.cells #[iv,sv] 83)).alloc (.cells #[.int .i64 0,.slice none 0 0] 217)) (.cells #[.int .i64 roots,.slice none 0 0] 217);have o1:=zh (w.alloc (.cells #[iv,sv] 83)) (.cells #[.int .i64 0,.slice none 0 0] 217);have o2:=zh ((w.alloc (.cells #[iv,sv] 83)).alloc (.cells #[.int .i64 0,.slice none 0 0] 217)) (.cells #[.int .i64 roots,.slice none 0 0] 217);have z1:(w.alloc (.cells #[iv,sv] 83)).heap.size=w.heap.size+1:=zq8 _ _;have z2:((w.alloc (.cells #[iv,sv] 83)).alloc (.cells #[.int .i64 0,.slice none 0 0] 217)).heap.size=w.heap.size+2:=by rw [zq8,z1]
  rw [z1] at o1;rw [z2] at o2;exact ⟨k3.obj (fun e=>e) (k2.obj (fun e=>e) (zh _ _)),k3.obj (fun e=>e) o1,o2,⟨rfl,.inl ⟨rfl,rfl⟩⟩,(k1.trans k2).trans k3⟩
theorem zc9.last {w wr W:World} {roots:Int} {iv sv bv:Value} {B:List Nat} (h:zc9 w wr roots iv sv bv B) (u v:Value) (hW:W=(wr.setCell ⟨w.heap.size+1,0,none⟩ u).setCell ⟨w.heap.size+1,1,none⟩ v):
    W.heap[w.heap.size+1]? = some (.cells #[u,v] 217 (0,0))∧Chg (fun _=>False) w W∧W.ownsRow w.heap.size 3 1 bv B.length (Yj B):=by
  obtain ⟨h1,h2⟩:=zd6 h.o1 u v W hW;exact ⟨h1,h.ch.next h2 (fun k hk e=>by omega),ZP (zn h.row h2 (fun k hk e=>by have:=(h.row.lt k hk).1;omega)) (by omega)⟩
set_option maxHeartbeats 8000000 in
set_option maxRecDepth 100000 in
theorem zkx (w:World) (roots:Int) (v iv sv:Value) (P:List (zq × Value)) (p:zL) (G G':Nat->Prop) (hv:ym w v G P) (hp:Zz w iv sv G' p) (hf:xz p) (hI:p.items.length<=1000) (hC:∀ c∈zk P,c.fr.length<=1000):
    Calls Tryz.prog 140 #[.int .i64 roots,v,.agg #[iv,sv]] w (zna w roots (zk P) p):=by
  have HV:=ze hv;have HP:=ze hp;have HF:=ze hf;obtain ⟨la,lcap,rfl,hl0,_⟩:=hv;obtain ⟨ia,ic,rfl⟩:=hp.items.shape;obtain ⟨sa,sc,rfl⟩:=hp.steps.shape;unfold maxLen at hl0;have CL:=zQ P;obtain ⟨T,hT⟩:∃ T:Nat->Nat,T=tot (zk P) p.items:=⟨_,rfl⟩;obtain ⟨U,hU⟩:∃ U:Nat->List Nat,U=yM (zk P) p.items:=⟨_,rfl⟩
  have TB:=ze (fun k (hk:k<=p.items.length)=>show T k<=1000000 from by
    rw [hT];exact Nat.le_trans (zb9 hC p.items k) (by have:=Nat.mul_le_mul_right 1000 (Nat.le_trans hk hI);omega))
  have TS:=ze (fun k (x:zP) (hk:p.items[k]? = some x)=>show T (k+1)=T k+zdu (zk P) x.cert from by rw [hT];exact zdy hk);have T0:=ze (show T 0=0 from by rw [hT];exact zb8 _ _);have US:=ze (fun k=>show U (k+1)=U k++[T k] from by rw [hU,hT];exact zgq _ _ _);have UL:=ze (fun k=>show (U k).length=k from by rw [hU];exact YY _ _ _);have U0:=ze (show U 0=[] from by rw [hU];rfl);have hBE:zN (zk P) p.items=U (p.items.length+1):=by rw [hU];rfl
  have FRL:=ze (fun (c:Nat) q (hq:P[c]? = some q)=>show zdu (zk P) (c:Int)=q.1.fr.length from by
    unfold zdu;rw [Int.toNat_natCast,Zy hq])
  have FRM:=ze (fun (c:Nat) q (hq:P[c]? = some q)=>hC q.1 (zq2 (Zy hq)));obtain ⟨IT,hIT⟩:∃ IT:Nat->zP->Bool,IT=zes roots (zk P) p.items:=⟨_,rfl⟩;have CUT:=ze (fun (q1:0<=roots) (q2:∀ (k:Nat) x,p.items[k]? = some x->IT k x=true) (q3:yP roots (T p.items.length) p.steps=true)=>show yF roots (zk P) p from ⟨q1,by rw [hIT] at q2;exact q2,by rw [hT] at q3;exact q3⟩);have NC0:=ze (fun (q:roots < 0)=>show ¬ yF roots (zk P) p from fun h=>by have:=h.root;omega)
  have NCI:=ze (fun (k:Nat) x (hk:p.items[k]? = some x) (q:IT k x=false)=>show ¬ yF roots (zk P) p from fun h=>by
    have:=h.item k x hk;rw [hIT] at q;rw [q] at this;cases this)
  have NCL:=ze (fun (q:yP roots (T p.items.length) p.steps=false)=>show ¬ yF roots (zk P) p from fun h=>by
    have:=h.last;rw [hT] at q;rw [q] at this;cases this)
  have IB:=ze (fun (k:Nat) (x:zP)=>show IT k x=(decide (0<=x.cert) && (decide (x.cert < P.length) && x.paths.all (yP roots (T k)))) from by rw [hIT,hT];unfold zes;rw [CL]);unfold zna;generalize yF roots (zk P) p=CO at *;rw [hBE];clear CL hBE hT hU hIT hp hf hC;have k1:=zi (fun _=>False) w (.cells #[.slice ia p.items.length ic,.slice sa p.steps.length sc] 83);have k2:=zi (fun _=>False) (w.alloc (.cells #[.slice ia p.items.length ic,.slice sa p.steps.length sc] 83)) (.cells #[.int .i64 0,.slice none 0 0] 217);have o1:=zh (w.alloc (.cells #[.slice ia p.items.length ic,.slice sa p.steps.length sc] 83)) (.cells #[.int .i64 0,.slice none 0 0] 217);rw [zq8] at o1;go_enter Tryz.func140,Tryz.ntmps140;by_cases hr:roots < 0
  · have g1:decide (roots < 0)=true:=zqY hr
    have O1:=ze o1;have K12:=ze (k1.trans k2);have d0:=zf (o:=0) o1 rfl;have e0:=zm (o:=0) o1;have d1:=zf (o:=1) o1 rfl;have e1:=zm (o:=1) o1;clear k1 k2 o1;go_wp2;refine bodyPost_ret (v:=.tuple #[.agg #[.int .i64 0,.slice none 0 0],.int .i64 2]) (by simp [results,Tryz.results140,go_sem,d0,d1]) rfl ?_;exact ⟨K12.out,.inr ⟨NC0.out hr,rfl⟩⟩
  have g1:decide (roots < 0)=false:=zqZ hr;clear k1 k2 o1 NC0;have NS:=ze (ziu w roots (.slice ia p.items.length ic) (.slice sa p.steps.length sc));go_wp2_with fail;generalize ((w.alloc (.cells #[.slice ia p.items.length ic,.slice sa p.steps.length sc] 83)).alloc (.cells #[.int .i64 0,.slice none 0 0] 217)).alloc (.cells #[.int .i64 roots,.slice none 0 0] 217)=w1 at *;go_loopw [9,22] (fun tv kv wr=>∃ (k:Nat) (bv:Value),k<=p.items.length∧tv=.int .i64 (T k:Int)∧kv=.int .i64 k∧Hid ((∀ (j:Nat) x,j < k->p.items[j]? = some x->IT j x=true)∧zc9 w wr roots (.slice ia p.items.length ic) (.slice sa p.steps.length sc) bv (U k))) (fun _ kv _=>p.items.length - (intOf kv).toNat)
  case atStart=>exact ⟨0,_,by omega,by rw [T0.out];rfl,rfl,ze ⟨fun j x hj=>by omega,by rw [U0.out];exact NS.out⟩⟩
  case round=>
    obtain ⟨k,bv,hk,rfl,rfl,HI⟩:=hrel;have ALL:=ze HI.out.1;have NI:=ze HI.out.2;clear HI NS;have tk:=TB.out k hk;by_cases hlt:k < p.items.length
    · obtain ⟨⟨cert,paths⟩,hx⟩:∃ x,p.items[k]? = some x:=⟨_,zq0 hlt⟩
      have HX:=ze hx;obtain ⟨_,_,e1,_,hcl⟩:=HP.out.items.chg NI.out.ch (fun _ _ e=>e);cases e1;obtain ⟨lb,lo,pv,rfl,_,i0,i1,hpa⟩:=hcl k _ hx;simp only at i0 i1 hpa;have hpl:=hpa.len;obtain ⟨pa,pc,rfl⟩:=hpa.shape;have fx:=(HF.out.items _ (zq2 hx));have PF:=ze fx.2;obtain ⟨fx1,fx2⟩:=fx.1;simp only at fx1 fx2;have kb:=zi (fun _=>False) wr (.cells #[.int .i64 cert,.slice pa paths.length pc] 98);have OX:=ze (zh wr (.cells #[.int .i64 cert,.slice pa paths.length pc] 98));have NB:=ze (NI.out.chg kb);have HPA:=ze (hpa.chg kb (fun _ _ e=>e));have ITF:=ze (fun (q:IT k ⟨cert,paths⟩=false)=>NCI.out k _ hx q)
      have ITT:=ze (fun (q:IT k ⟨cert,paths⟩=true)=>show ∀ (j:Nat) x,j < k+1->p.items[j]? = some x->IT j x=true from fun j x hj hs=>by
        rcases Nat.lt_or_ge j k with z | z
        · exact ALL.out j x z hs
        · obtain rfl:j=k:=by omega
          rw [hx] at hs;cases hs;exact q)
      have IBK:=ze (IB.out k ⟨cert,paths⟩);have TSK:=ze (TS.out k _ hx);clear hcl hx kb fx hpa NI ALL;go_upto_region 8 with fail;generalize wr.alloc (.cells #[.int .i64 cert,.slice pa paths.length pc] 98)=wa at *;generalize wr.heap.size=bx at *;have x0:=zf (o:=0) OX.out rfl;have x1:=zf (o:=1) OX.out rfl;by_cases hc0:cert < 0
      · have g2:decide (cert < 0)=true:=zqY hc0
        have R:=ze (ITF.out (by rw [IBK.out];(try simp only);rw [zqZ (by omega)];rfl));clear hc0;have d0:=zf (o:=0) NB.out.o1 rfl;have e0:=zm (o:=0) NB.out.o1;have d1:=zf (o:=1) NB.out.o1 rfl;have e1:=zm (o:=1) NB.out.o1;go_wp2;obtain ⟨W,hW⟩:∃ W,W=(wa.setCell ⟨w.heap.size+1,0,none⟩ (.int .i64 0)).setCell ⟨w.heap.size+1,1,none⟩ (.slice none 0 0):=⟨_,rfl⟩;rw [<- hW];obtain ⟨ob,kW,_⟩:=NB.out.last _ _ hW;clear hW;have z0:W.cell? ⟨w.heap.size+1,0,none⟩=some (.int .i64 0):=zf ob rfl;have z1:W.cell? ⟨w.heap.size+1,1,none⟩=some (.slice none 0 0):=zf ob rfl;refine bodyPost_ret (v:=.tuple #[.agg #[.int .i64 0,.slice none 0 0],.int .i64 2]) (by simp [results,Tryz.results140,go_sem,z0,z1]) rfl ?_;exact ⟨kW,.inr ⟨R.out,rfl⟩⟩
      have g2:decide (cert < 0)=false:=zqZ hc0;obtain ⟨c,rfl⟩:∃ c:Nat,cert=(c:Int):=⟨cert.toNat,by omega⟩;by_cases hc1:c < P.length
      rotate_left
      · have g3:decide ((P.length:Int)<=(c:Int))=true:=zqY (by omega)
        have g4:decide (P.length<=c)=true:=zqY (by omega);have R:=ze (ITF.out (by rw [IBK.out];(try simp only);rw [zqY (p:=(0:Int)<=(c:Int)) (by omega),zqZ (p:=(c:Int) < (P.length:Int)) (by omega)];rfl));have d0:=zf (o:=0) NB.out.o1 rfl;have e0:=zm (o:=0) NB.out.o1;have d1:=zf (o:=1) NB.out.o1 rfl;have e1:=zm (o:=1) NB.out.o1;go_wp2;obtain ⟨W,hW⟩:∃ W,W=(wa.setCell ⟨w.heap.size+1,0,none⟩ (.int .i64 0)).setCell ⟨w.heap.size+1,1,none⟩ (.slice none 0 0):=⟨_,rfl⟩;rw [<- hW];obtain ⟨ob,kW,_⟩:=NB.out.last _ _ hW;clear hW;have z0:W.cell? ⟨w.heap.size+1,0,none⟩=some (.int .i64 0):=zf ob rfl;have z1:W.cell? ⟨w.heap.size+1,1,none⟩=some (.slice none 0 0):=zf ob rfl;refine bodyPost_ret (v:=.tuple #[.agg #[.int .i64 0,.slice none 0 0],.int .i64 2]) (by simp [results,Tryz.results140,go_sem,z0,z1]) rfl ?_;exact ⟨kW,.inr ⟨R.out,rfl⟩⟩
      have g3:decide ((P.length:Int)<=(c:Int))=false:=zqZ (by omega);have g4:decide (P.length<=c)=false:=zqZ (by omega);clear hc0;go_wp2;clear x0 x1;go_loopw [40] (fun jv wr=>∃ j:Nat,j<=paths.length∧jv=.int .i64 j∧Hid ((∀ (i:Nat) L,i < j->paths[i]? = some L->yP roots (T k) L=true)∧zc9 w wr roots (.slice (some ⟨lb,lo,none⟩) p.items.length ic) (.slice sa p.steps.length sc) bv (U k)∧Chg (fun _=>False) wa wr)) (fun jv _=>paths.length - (intOf jv).toNat)
      case atStart=>exact ⟨0,by omega,rfl,ze ⟨fun j L hj=>by omega,NB.out,Chg.refl _ _⟩⟩
      case round=>
        obtain ⟨j,hj,rfl,HJ⟩:=hrel;have ALJ:=ze HJ.out.1;have NJ:=ze HJ.out.2.1;have KJ:=ze HJ.out.2.2;clear HJ;by_cases hjl:j < paths.length
        · obtain ⟨L,hL⟩:∃ L,paths[j]? = some L:=⟨_,zq0 hjl⟩
          obtain ⟨_,_,e1,_,hcl⟩:=HPA.out.chg KJ.out (fun _ _ e=>e);cases e1;obtain ⟨lb2,lo2,pv2,rfl,_,q0,hst⟩:=hcl j L hL;obtain ⟨qa,qc,rfl⟩:=hst.shape;have SA:=ze (zgO wr roots bv (.slice qa L.length qc) G' L (T k) hst.at_ (PF.out L (zq2 hL)) (by omega) (by omega));have c0:=zf (o:=0) NJ.out.o2 rfl;have c1:=zf (o:=1) NJ.out.o2 rfl
          have BAD:=ze (fun (q:yP roots (T k) L=false)=>ITF.out (by
            rw [IBK.out]
            try simp only
            have:paths.all (yP roots (T k))=false:=by
              cases hb:paths.all (yP roots (T k)) with
              | false=>rfl
              | true=>
                have:=zrh.1 hb L (zq2 hL);rw [q] at this;cases this
            rw [this,Bool.and_false,Bool.and_false]))
          have GOOD:=ze (fun (q:yP roots (T k) L=true)=>show ∀ (i:Nat) M,i < j+1->paths[i]? = some M->yP roots (T k) M=true from fun i M hi hM=>by
            rcases Nat.lt_or_ge i j with z | z
            · exact ALJ.out i M z hM
            · obtain rfl:i=j:=by omega
              rw [hL] at hM;cases hM;exact q)
          generalize yP roots (T k) L=bq at SA BAD GOOD;clear hcl hL hst ALJ;go_wp2_with fail;(with_reducible refine SA.out.mono ?_);rintro e w5 ⟨rfl,k5⟩;have N5:=ze (NJ.out.chg k5);have K5:=ze (KJ.out.trans k5);clear SA NJ KJ k5 c0 c1;cases bq with
          | false=>
            have R:=ze (BAD.out rfl);have d0:=zf (o:=0) N5.out.o1 rfl;have e0:=zm (o:=0) N5.out.o1;have d1:=zf (o:=1) N5.out.o1 rfl;have e1:=zm (o:=1) N5.out.o1;go_wp2;obtain ⟨W,hW⟩:∃ W,W=(w5.setCell ⟨w.heap.size+1,0,none⟩ (.int .i64 0)).setCell ⟨w.heap.size+1,1,none⟩ (.slice none 0 0):=⟨_,rfl⟩;rw [<- hW];obtain ⟨ob,kW,_⟩:=N5.out.last _ _ hW;clear hW;have z0:W.cell? ⟨w.heap.size+1,0,none⟩=some (.int .i64 0):=zf ob rfl;have z1:W.cell? ⟨w.heap.size+1,1,none⟩=some (.slice none 0 0):=zf ob rfl;refine bodyPost_ret (v:=.tuple #[.agg #[.int .i64 0,.slice none 0 0],.int .i64 2]) (by simp [results,Tryz.results140,go_sem,z0,z1]) rfl ?_;exact ⟨kW,.inr ⟨R.out,rfl⟩⟩
          | true=>
            have R:=ze (GOOD.out rfl);go_wp2;go_roundw
            case rel=>exact ⟨j+1,by omega,by go_num,ze ⟨R.out,N5.out,K5.out⟩⟩
            case measure=>simp [intOf];omega
        · obtain rfl:j=paths.length:=by omega
          have R:=ze (ITT.out (by
            rw [IBK.out]
            try simp only
            have:paths.all (yP roots (T k))=true:=zrh.2 (fun L hL=>by
              obtain ⟨i,hi⟩:=List.mem_iff_getElem?.1 hL;exact ALJ.out i L (zq1.1 hi).1 hi)
            rw [this,zqY (p:=(0:Int)<=(c:Int)) (by omega),zqY (p:=(c:Int) < (P.length:Int)) (by omega)];rfl))
          obtain ⟨ba,bc,rfl⟩:=zl NJ.out.row;have ul:(U k).length<=k:=Nat.le_of_eq (UL.out k);have c1:=zf (o:=1) NJ.out.o2 rfl;have hbs:w.heap.size+3<=wr.heap.size:=by have:=zr NJ.out.o2;omega
          obtain ⟨pq,hpq⟩:∃ pq,P[c]? = some pq:=⟨_,zq0 hc1⟩;have FR:=FRL.out c pq hpq;have FM:=FRM.out c pq hpq;have TE:=ze (show T (k+1)=T k+pq.1.fr.length from by rw [TSK.out];(try simp only);rw [FR]);have tk1:=TB.out (k+1) hlt;have HPQ:=ze hpq;clear FR hpq ALJ;go_wp2_with (at_builtin;refine Zd rfl (.tmp 52) (.tmp 54) 36 rfl 3 1 8 Tryz.underlying36 Tryz.elemInt (w.heap.size+3) (.slice ba (U k).length bc) (U k).length (Yj (U k)) rfl (NJ.out.row.alloc _) _ [.int .i64 (T k:Int)] 3 (0,0) rfl (zh _ _) rfl ?b1 ?b2 ?b3 ?b4 ?nx)
          case b1=>first | rfl | (intro u hu;simp at hu;subst hu;rfl)
          case b2=>omega
          case b3=>unfold maxLen;omega
          case b4=>first | omega | (rw [zq8];omega)
          intro v5 w5 o5 g5;obtain ⟨a5,c5,rfl⟩:=zl o5;have ka:=zi (fun _=>False) wr (.cells #[.int .i64 (T k:Int)] 3);have NA:=NJ.out.chg ka;have NP:=ze (NA.push g5 o5);have ow2:=NA.grown g5;have ox1:=(KJ.out.trans ka).obj (fun e=>e) OX.out
          have ox2:=(Chg.of_grown g5).obj (fun e=>by
            obtain ⟨cs,q⟩:=zC NA.row e;exact zZ q ox1 (by decide) rfl) ox1
          have ox3:=(zG w5 (w.heap.size+2) 1 (.slice a5 ((U k).length+1) c5)).obj (fun e=>zZ ox2 ow2 (by decide) e) ox2;have x0:=zf (o:=0) ox3 rfl;have y1:=zf (o:=1) ow2 rfl;have f1:=zm (o:=1) ow2;have x1:IntKind.i64.wrap ((T k:Int)+(pq.1.fr.length:Int))=(T (k+1):Int):=by rw [TE.out,IntKind.wrap_i64] <;> omega
          obtain ⟨_,_,e1,_,hcv⟩:=HV.out.chg NP.out.ch (fun _ _ e=>e);cases e1;obtain ⟨cg,co,csa,csc,rfl,_,_,_,_,_,cw3,_⟩:=hcv c pq HPQ.out;clear o5 g5 ka NA ow2 ox1 ox2 ox3 hcv NJ KJ c1;go_wp2;go_roundw
          case rel=>exact ⟨k+1,_,by omega,rfl,by go_num,ze ⟨R.out,by rw [US.out];exact NP.out⟩⟩
          case measure=>simp [intOf];omega
    · obtain rfl:k=p.items.length:=by omega
      have hst:=HP.out.steps.chg NI.out.ch (fun _ _ e=>e);have SA:=ze (zgO wr roots bv (.slice sa p.steps.length sc) G' p.steps (T p.items.length) hst.at_ HF.out.steps (by omega) (by omega));have c0:=zf (o:=0) NI.out.o2 rfl;have c1:=zf (o:=1) NI.out.o2 rfl;have p1:=zf (o:=1) NI.out.o0 rfl;have CK:=ze (CUT.out (by omega) (fun k x hk=>ALL.out k x (zq1.1 hk).1 hk));have NK:=ze NCL.out;generalize yP roots (T p.items.length) p.steps=bq at SA CK NK;clear hst;go_wp2_with fail;(with_reducible refine SA.out.mono ?_);rintro e w5 ⟨rfl,k5⟩;have N5:=ze (NI.out.chg k5);clear SA NI k5 c0 c1 p1;cases bq with
      | false=>
        have R:=ze (NK.out rfl);have d0:=zf (o:=0) N5.out.o1 rfl;have e0:=zm (o:=0) N5.out.o1;have d1:=zf (o:=1) N5.out.o1 rfl;have e1:=zm (o:=1) N5.out.o1;go_wp2;obtain ⟨W,hW⟩:∃ W,W=(w5.setCell ⟨w.heap.size+1,0,none⟩ (.int .i64 0)).setCell ⟨w.heap.size+1,1,none⟩ (.slice none 0 0):=⟨_,rfl⟩;rw [<- hW];obtain ⟨ob,kW,_⟩:=N5.out.last _ _ hW;clear hW;have z0:W.cell? ⟨w.heap.size+1,0,none⟩=some (.int .i64 0):=zf ob rfl;have z1:W.cell? ⟨w.heap.size+1,1,none⟩=some (.slice none 0 0):=zf ob rfl;refine bodyPost_ret (v:=.tuple #[.agg #[.int .i64 0,.slice none 0 0],.int .i64 2]) (by simp [results,Tryz.results140,go_sem,z0,z1]) rfl ?_;exact ⟨kW,.inr ⟨R.out,rfl⟩⟩
      | true=>
        have R:=ze (CK.out rfl);obtain ⟨ba,bc,rfl⟩:=zl N5.out.row;have ul:(U p.items.length).length<=p.items.length:=Nat.le_of_eq (UL.out p.items.length);have c1:=zf (o:=1) N5.out.o2 rfl;have hbs:w.heap.size+3<=w5.heap.size:=by have:=zr N5.out.o2;omega
        go_wp2_with (at_builtin;refine Zd rfl (.tmp 75) (.tmp 77) 36 rfl 3 1 8 Tryz.underlying36 Tryz.elemInt (w.heap.size+3) (.slice ba (U p.items.length).length bc) (U p.items.length).length (Yj (U p.items.length)) rfl (N5.out.row.alloc _) _ [.int .i64 (T p.items.length:Int)] 3 (0,0) rfl (zh _ _) rfl ?e1 ?e2 ?e3 ?e4 ?nx2)
        case e1=>first | rfl | (intro u hu;simp at hu;subst hu;rfl)
        case e2=>omega
        case e3=>unfold maxLen;omega
        case e4=>first | omega | (rw [zq8];omega)
        intro v6 w6 o6 g6;obtain ⟨a6,c6,rfl⟩:=zl o6;have ka:=zi (fun _=>False) w5 (.cells #[.int .i64 (T p.items.length:Int)] 3);have NA:=N5.out.chg ka;have NP:=NA.push g6 o6;rw [<- US.out] at NP;have NP:=ze NP;have ow2:=NA.grown g6;have y1:=zf (o:=1) ow2 rfl;have f1:=zm (o:=1) ow2;have d0:=zf (o:=0) NP.out.o1 rfl;have e0:=zm (o:=0) NP.out.o1;have d1:=zf (o:=1) NP.out.o1 rfl;have e1:=zm (o:=1) NP.out.o1;have y0:=zf (o:=0) NP.out.o2 rfl;have y2:=zf (o:=1) NP.out.o2 rfl;clear o6 g6 ka NA ow2 N5 c1;go_wp2;obtain ⟨W,hW⟩:∃ W,W=((w6.setCell ⟨w.heap.size+2,1,none⟩ (.slice a6 ((U p.items.length).length+1) c6)).setCell ⟨w.heap.size+1,0,none⟩ (.int .i64 roots)).setCell ⟨w.heap.size+1,1,none⟩ (.slice a6 ((U p.items.length).length+1) c6):=⟨_,rfl⟩;rw [<- hW];obtain ⟨ob,kW,hrow⟩:=NP.out.last _ _ hW;clear hW;have z0:W.cell? ⟨w.heap.size+1,0,none⟩=some (.int .i64 roots):=zf ob rfl;have z1:W.cell? ⟨w.heap.size+1,1,none⟩=some (.slice a6 ((U p.items.length).length+1) c6):=zf ob rfl;refine bodyPost_ret (v:=.tuple #[.agg #[.int .i64 roots,.slice a6 ((U p.items.length).length+1) c6],.int .i64 0]) (by simp [results,Tryz.results140,go_sem,z0,z1]) rfl ?_;have e9:(U p.items.length).length+1=(U (p.items.length+1)).length:=by rw [UL.out,UL.out]
        rw [e9] at hrow ⊢;exact ⟨kW,.inl ⟨R.out,a6,c6,rfl,hrow⟩⟩
end Go.Proofs.YthdfplafihmejaaGreat
