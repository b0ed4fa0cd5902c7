/-
  Package reach: a row where it lies; put. Package reach: steps, and the iterator that it hands back. Package reach: one word's steps, ranged over (walkAll's inner loop). Package reach: what a round of walkAll's inner loop leaves; the iterator as the range's law wants it; marks of ranges at a function's end. Package reach: walkAll. Package reach: walkAll where it is asked wrongly; All. The reference's Sub, Swap, Counts, Use; its row, Place. The reference's Find. The reference's All. What the arguments' readings say, in the words of the walks: rules, steps. Reach: what the laws of many layers lean on. What reach.Leads tells, in plain Lean. word.Find. RRefA: what else. RFind: what else. RTellR1: what else. RArgs: what else. RHelp: what else. The reference's Leads. The reference's All. SSetH: what else. RArgsZ: what else. RHelpZ: what else. Maps whose elements are told as they lie there: lookups, stores, deletions, how many there are, ranges. CMap: what else. Package cert: isOf, alone, num; package word: Of of one atom; slices.Contains of ints. Package set: Same; Of of two words.
-/
import Derived.Test.YtcilaocknhphnaaGreatZgRBase
import Derived.Test.YtcilaocknhphnaaGreatZgKit2
import Derived.Test.YtcilaocknhphnaaGreatZgMRefs
import Derived.RangeFuncNested
import Derived.RangeFuncBound
import Derived.RangeFuncCalls
import Derived.RangeFuncLeaves
import Derived.Shelf.Abstract
import Derived.Shelf.RegionOpen
import Derived.WalkKit
import Derived.OwnWalkIn
import Derived.TacticsInMore
import Derived.LoopNIn
import Derived.LoopIn
import Derived.Sort.QuietIn
import Derived.Lib.SmallJoins
import Derived.SizedLaws
import Derived.Maps.Own
import Derived.Maps.OwnOps
import Derived.Maps.OwnSet
import Derived.Maps.Views
import Derived.Maps.RangeWalk
import Derived.WalkSpells
namespace Go.Proofs.YtcilaocknhphnaaGreat
open Go.RowKit Go.Maps
theorem Tryz.wordKeyed:Keyed Tryz.prog 29:=string_keyed Tryz.underlying29
theorem Tryz.elemOrigin:Zc Tryz.prog 532 3 24:=zX (z:=.agg #[.int .i64 0,.int .i64 0,.int .i64 0]) (by kernel_rfl) rfl (by decide)
theorem Tryz.sizeOrigins:(Tryz.prog.info? 520).map (·.size)=some 1:=by kernel_rfl
def bar (l:Wd):ByteArray:=⟨l.toArray⟩
def zgp (r:List Ent):List Value:=r.map fun e=>.string (bar e.1)
def zjl (r:List Ent):List Value:=r.flatMap fun e=>[.int .i64 e.2.1,.int .i64 (e.2.2.1:Int),.int .i64 (e.2.2.2:Int)]
open Classical in
noncomputable def zj8 (r:List Ent):Lit->Option (DataW Unit):=fun kl=>if h:∃ v,v∈YU r∧kl=.string v then some (.lit (.int .i64 (((YU r).idxOf (Classical.choose h):Nat):Int))) else none
structure RB where
 b:Nat
 wv:Value
 fv:Value
 bm:Nat
structure zli (w:World) (base:Nat) (X:RB) (n1:Nat) (xs:List Value) (n2:Nat) (ys:List Value) (n3:Nat) (f:Lit->Option (DataW Unit)):Prop where
 hb:w.heap[X.b]? = some (.cells #[X.wv,X.fv,.map (some X.bm)] 523 (0,0))
 hw:w.ownsRow base 29 1 X.wv n1 xs
 hf:w.ownsRow base 532 3 X.fv n2 ys
 hm:zhI Tryz.prog 29 3 w X.bm n3 f
 bb:base<=X.b
 bm:base<=X.bm
 nwf:ziS X.wv X.fv
 nwb:X.wv.ownBlock≠some X.b
 nfb:X.fv.ownBlock≠some X.b
def zlh (w:World) (base:Nat) (X:RB) (r:List Ent):Prop:=zli w base X r.length (zgp r) r.length (zjl r) r.length (zj8 r)
def RB.own (X:RB) (k:Nat):Prop:=k=X.b∨k=X.bm∨X.wv.ownBlock=some k∨X.fv.ownBlock=some k
theorem zi7 (s:ByteArray) (h:s.size<=maxLen):keyOf Tryz.prog 29 (.string s)=some (.string s.data.toList):=WideMaps.keyOf_string_mk Tryz.underlying29 h
attribute [local go_sem] Oper.semAt_some

def zgs (b:Nat) (W:World) (k:Nat):Prop:=k=b∨∃ o v,W.cell? ⟨b,o,none⟩=some v∧zaT v=some k
structure KpR (b:Nat) (W W':World):Prop where
 size:W.heap.size<=W'.heap.size
 cells:∀ k cs t fz,W.heap[k]? = some (.cells cs t fz)->¬ zgs b W k->W'.heap[k]? = some (.cells cs t fz)
 own:∀ k,zgs b W' k->zgs b W k∨W.heap.size<=k
theorem Zq {a:ByteArray} (h:ZZ a.data.toList=true):a.size<=16∧a.size % 2=0:=by
 obtain ⟨h1,_,h3,_⟩:=(Zr _).1 h;unfold zI at h3;rw [zz] at h1 h3;omega
attribute [local go_sem] Oper.semAt_some

theorem zM {w:World} {base:Nat} {e:TypeId} {size n:Nat} {xs:List Value} {v:Value} (h:w.ownsRow base e size v n xs) {k:Nat} (hk:v.ownBlock=some k):∃ cs,w.heap[k]? = some (.cells cs e (0,0)):=by
 obtain ⟨_,⟨rfl,_⟩ | ⟨g,cap,cur,rfl,_,hg,_⟩⟩:=h
 ·cases hk
 ·cases hk;exact ⟨cur,hg⟩
attribute [local go_sem] Oper.semAt_some

attribute [local go_sem] Oper.semAt_some

def zk5 (lo:Nat) (W:World) (ds:List Deferred):Prop:=
 ∃ Ds:List Nat,ds=Ds.map (fun D=>{ target:=.collected D,args:=#[] })∧Ds.Nodup∧∀ D∈Ds,lo<=D∧W.heap[D]? = some (.deferred (some []))
structure zk8 (w w3:World) (X3:RB) (R:List za6) (s:ByteArray) (bnd bi:Nat) (r:List Ent) (X:RB) (ds:List Deferred) (W:World):Prop where
 row:zlh W w.heap.size X r
 xb:X.b=X3.b
 xm:X.bm=X3.bm
 goes:zjj (R.map zkF) s.data.toList bnd=zeF (R.map zkF) bnd (bnd - ds.length) ds.length r
 le:ds.length<=bnd
 len:r.length<=bnd
 may:∀ u∈YU r,ZZ u=true
 box:W.heap[bi]? = some (.cells #[.int .i64 (ds.length:Int)] 3 (0,0))
 hbi:w3.heap.size<=bi
 nbi:¬ X.own bi
 own:∀ k,X.own k->X3.own k∨w3.heap.size<=k
 chg:Chg X3.own w3 W
 marks:zk5 w3.heap.size W ds
attribute [local go_sem] Oper.semAt_some

def zi2 (may:Bool) (b:Int) (n:Nat):Int:=if may then (if b < 1∨5000 < b then 1 else if 400 < n then 3 else 0) else 2
structure zlq (w:World) (v:Value) (R:List za6) (s:ByteArray):Prop where
 rules:zcj w v (· < w.heap.size) R
 few:(R.length<=400∧∀ r∈R,r.1.size<=400)∨400 < R.length
 word:s.size<=maxLen
def zk6 (R:List za6) (s:ByteArray) (b:Int):Option (List Ent):=zjj (R.map zkF) s.data.toList b.toNat
def zez (R:List za6) (s:ByteArray) (b:Int):Int:=if zi2 (ZZ s.data.toList) b R.length=0 then (if zk6 R s b=none then 12 else 0) else zi2 (ZZ s.data.toList) b R.length
theorem Tryz.elemStep:Zc Tryz.prog 502 2 16:=zX (z:=.agg #[.int .i64 0,.int .i64 0]) (by kernel_rfl) rfl (by decide)
def zjH (w:World) (v:Value) (G:Nat->Prop) (L:List (Int × Int)):Prop:=
 ∃ la cap,v=.slice la L.length cap∧L.length<=maxLen∧∀ (j:Nat) x,L[j]? = some x->∃ lb lo,la=some ⟨lb,lo,none⟩∧G lb∧w.cell? ⟨lb,lo+j*2,none⟩=some (.int .i64 x.1)∧w.cell? ⟨lb,lo+j*2+1,none⟩=some (.int .i64 x.2)
def zkB (s:ByteArray) (a:Int) (n:Nat):Prop:=0<=a∧a+n<=zI s.data.toList
instance (s:ByteArray) (a:Int) (n:Nat):Decidable (zkB s a n):=by unfold zkB;infer_instance
def zkk (l:List Wd) (w:Wd) (a i:Nat):List Nat:=(List.range i).filter fun t=>zgh (l.getD t []) w a
def zhQ (R:List Rul) (u:Wd) (a k:Nat):List ((Nat × Nat) × Wd):=(ziY (zjx R) u a++(zkk (zjx R) u a k).map fun t=>(a,t)).map fun h=>(h,zjZ R u h)
def zj3 (R:List Rul) (b i:Nat) (r:List Ent) (u:Wd) (a k:Nat):Option (List Ent):=zeO b i (zhQ R u a k) r
def zjm (r:List Ent):List Value:=r.map fun e=>.int .i64 e.2.1
def zji (r:List Ent):List Value:=zkl (r.map fun e=>e.2.2)
structure zlj (w:World) (base b:Nat) (lv fv bv:Value) (r1 r2 r3:List Ent):Prop where
 hb:w.heap[b]? = some (.cells #[lv,fv,bv] 504 (0,0))
 hl:w.ownsRow base 29 1 lv r1.length (zgp r1)
 hf:w.ownsRow base 3 1 fv r2.length (zjm r2)
 hs:w.ownsRow base 502 2 bv r3.length (zji r3)
 bb:base<=b
def zk7 (w:World) (base b:Nat) (r:List Ent):Prop:=∃ lv fv bv,zlj w base b lv fv bv r r r
structure zlo (w:World) (R:List Rul) (s:Wd) (bnd b i:Nat) (r:List Ent) (W:World):Prop where
 row:zk7 W w.heap.size b r
 goes:zjj R s bnd=zeF R bnd (bnd - i) i r
 le:i<=bnd
 len:r.length<=bnd
 nd:(YU r).Nodup
 may:∀ u∈YU r,ZZ u=true
 chg:Chg (fun _=>False) w W
structure FIn (w:World) (R:List Rul) (bnd b i:Nat) (r0:List Ent) (a k:Nat) (r:List Ent) (W:World):Prop where
 row:zk7 W w.heap.size b r
 pre:zj3 R bnd i r0 (zcx r0 i) a k=some r
 chg:Chg (fun _=>False) w W
theorem Tryz.sizeSteps:(Tryz.prog.info? 459).map (·.size)=some 1:=by kernel_rfl
open Go.ChangeShapes Go.WideShapes Go.ChangeAt
structure zkI (w:World) (v:Value) (R:List za6):Prop where
 at_:zcj w v (· < w.heap.size) R
 nil:∀ n c,v=.slice none n c->n=0∧c=0
structure zkH (w:World) (v:Value) (L:List (Int × Int)):Prop where
 at_:zjH w v (· < w.heap.size) L
 fit:∀ x∈L,-9223372036854775808<=x.1∧x.1<=9223372036854775807
theorem zhP {P:Program} {W:World} {H:Type} {enc:TypeId × Value->H} {t:TypeId} {f0 f1:Field} {fuel:Nat} {cs:List Value} {x:DataW H × List MemPlace} {base:Nat} {spare:Nat->Bool} {held:Bool} (ht:P.underlying t=some (.struct #[f0,f1])) (h:DataW.trod enc P W base spare held fuel t cs=some x):
  ∃ y0 y1 n,x.1=.agg [y0.1,y1.1]∧cs.length=P.cellsOf t∧DataW.trod enc P W base spare held n f0.type ((cs.drop f0.offset).take (P.cellsOf f0.type))=some y0∧DataW.trod enc P W base spare held n f1.type ((cs.drop f1.offset).take (P.cellsOf f1.type))=some y1:=by
 obtain ⟨xs,n,_,rfl,hl,hlen,hf⟩:=DataW.trod_struct ht h
 match xs,hlen with
 | [y0,y1],_=>exact ⟨y0,y1,n,rfl,hl,by simpa using hf 0 f0 rfl,by simpa using hf 1 f1 rfl⟩
theorem Tryz.cellsInt:Tryz.prog.cellsOf 3=1:=by kernel_rfl
theorem Tryz.cellsWord:Tryz.prog.cellsOf 29=1:=by kernel_rfl
theorem Tryz.cellsRule:Tryz.prog.cellsOf 85=2:=by kernel_rfl
theorem Tryz.cellsStep:Tryz.prog.cellsOf 502=2:=by kernel_rfl
theorem Tryz.bytesRule:Tryz.prog.bytesOf 85=32:=by kernel_rfl
def rowD (R:List za6) (s:ByteArray) (b:Int):List Ent:=(zk6 R s b).getD []
def zgr (L:List za6):List Value:=L.flatMap fun r=>[.string r.1,.string r.2]
theorem Tryz.elemRule:Zc Tryz.prog 85 2 32:=zX (z:=.agg #[.string ⟨#[]⟩,.string ⟨#[]⟩]) (by kernel_rfl) rfl (by decide)
def zkK (R:List za6) (s t:ByteArray) (b:Int):Bool:=if zez R s b=0 then decide (t.data.toList∈YU (rowD R s b)) else false

theorem zjD (x y:UInt8):UInt8.ofNat ((x.toNat*256+y.toNat) / 256)=x:=by
 have:=y.toNat_lt;rw [show (x.toNat*256+y.toNat) / 256=x.toNat by omega];simp
theorem zjC (x y:UInt8):UInt8.ofNat ((x.toNat*256+y.toNat) % 256)=y:=by
 have:=y.toNat_lt;rw [show (x.toNat*256+y.toNat) % 256=y.toNat by omega];simp
theorem zaW (x y:UInt8) (l:Wd):ZP (x :: y :: l)=(x.toNat*256+y.toNat) :: ZP l:=by
 apply List.ext_getElem?;intro i;have e:zI (x :: y :: l)=zI l+1:=by unfold zI;simp only [List.length_cons];omega
 rcases i with _ | i
 ·rw [yz _ (by omega)];rfl
 ·by_cases hi:i < zI l
  ·rw [yz _ (by omega),zlv,yz _ hi]
   rfl
  ·rw [zlP (by rw [Zy];omega),zlP (by rw [List.length_cons,Zy];omega)]
theorem YL:∀ (l:Wd),l.length % 2=0->Ze (ZP l)=l
 | [],_=>rfl
 | [x],h=>by simp at h
 | x :: y :: l,h=>by
  have:=YL l (by simp only [List.length_cons] at h;omega);rw [zaW];unfold Ze at this ⊢;rw [List.flatMap_cons,this,zjD,zjC];rfl
theorem zbG:∀ (k:Nat) (l:Wd),ZP (l.drop (2*k))=(ZP l).drop k
 | 0,l=>by simp
 | k+1,[]=>by simp [ZP,zI]
 | k+1,[x]=>by
  rw [List.drop_eq_nil_of_le (by simp;omega),List.drop_eq_nil_of_le (by rw [Zy];unfold zI;simp)];rfl
 | k+1,x :: y :: l=>by
  rw [show 2*(k+1)=2*k+1+1 by omega,List.drop_succ_cons,List.drop_succ_cons,zaW,List.drop_succ_cons,zbG k l]
theorem yU (l:List Nat) (j:Nat):(yM l)[j]? = (l[j]?).map fun (a:Nat)=>Value.int .u16 (a:Int):=by unfold yM;rw [zlK]
theorem ziK {l:Wd} {a:Nat} (h:a∈ZP l):a < 65536:=by
 unfold ZP at h;rw [List.mem_map] at h;obtain ⟨i,_,rfl⟩:=h;exact ye l i
end Go.Proofs.YtcilaocknhphnaaGreat



namespace Go.Proofs.YtcilaocknhphnaaGreat
open Go.RowKit Go.Maps
def zfp (v:Value):Option (DataW Value × List MemPlace):=some (.held v,[])
def zhE (D:DataW Value) (f:Lit->Option Value):Prop:=∀ kl,Maps.has D kl=(f kl).isSome∧∀ v,f kl=some v->∀ z,D.atKey kl z=.held v
def yC (P:Program) (k:TypeId) (w:World) (b m:Nat) (f:Lit->Option Value):Prop:=
 ∃ D:DataW Value,w.ownsMap P k zfp b m D∧Maps.size D=m∧zhE D f
open Classical in
noncomputable def zay (f:Lit->Option Value) (kl:Lit) (d:Option Value):Lit->Option Value:=fun x=>if x=kl then d else f x
theorem yv (f:Lit->Option Value) (kl:Lit) (d:Option Value):zay f kl d kl=d:=if_pos rfl
theorem Zg (f:Lit->Option Value) {kl x:Lit} (h:x≠kl) (d:Option Value):zay f kl d x=f x:=if_neg h
theorem zbY {H:Type} {P:Program} {k:TypeId} {R:Value->Option (DataW H × List MemPlace)} {w:World} {b n:Nat} {D:DataW H} (h:w.ownsMap P k R b n D):w.ownsMap P k R b (Maps.size D) D:=by
 obtain ⟨es,clock,hb,F,_,rfl⟩:=h;exact ⟨es,clock,hb,F,by simp [Maps.size,length_sorted],rfl⟩
theorem xZ {D:DataW Value} {f:Lit->Option Value} (q:zhE D f) (kl:Lit) (z:Value):D.atKey kl (.held z)=.held ((f kl).getD z):=by
 obtain ⟨h1,h2⟩:=q kl;cases hf:f kl with
 | none=>rw [hf] at h1;exact atKey_of_not_has h1 _
 | some d=>exact h2 d hf _
theorem zgm {D:DataW Value} {f:Lit->Option Value} (q:zhE D f) (hD:IsMap D) {kl:Lit} (hk:WideAt.IsKeyLit kl) (v:Value):zhE (D.put kl (.held v)) (zay f kl (some v)):=by
 intro x;by_cases hx:x=kl
 ·subst hx
  rw [yv];exact ⟨has_put_same hD hk _,fun d e z=>by cases e;exact atKey_put_same hD hk _ z⟩
 ·rw [Zg f hx,has_put_other hx]
  exact ⟨(q x).1,fun d e z=>by rw [atKey_put_other hx];exact (q x).2 d e z⟩
theorem Xc {v:Value} {d:Value} {ps:List MemPlace} (h:zfp v=some (.held d,ps)):v=d:=by
 unfold zfp at h;cases h;rfl
section
variable {P:Program} {k e:TypeId} {w:World} {b m:Nat} {f:Lit->Option Value}
theorem yC.made (P:Program) (k:TypeId) (w:World):yC P k (w.alloc (.map #[] 0)) w.heap.size 0 (fun _=>none):=
 ⟨.map [],World.ownsMap_made w P k _,rfl,fun _=>⟨rfl,fun d h=>by cases h⟩⟩
theorem yC.chg {S:Nat->Prop} {w':World} (h:yC P k w b m f) (hc:Chg S w w') (hs:¬ S b):yC P k w' b m f:=by
 obtain ⟨D,⟨es,clock,hh,r⟩,q⟩:=h;exact ⟨D,⟨es,clock,hc.obj hs hh,r⟩,q⟩
theorem yC.lt (h:yC P k w b m f):b < w.heap.size:=by
 obtain ⟨D,h,q⟩:=h;exact h.lt
theorem yC.ne_cells (h:yC P k w b m f) {g:Nat} {cs:Array Value} {t:TypeId} {fz:Nat × Nat} (hg:w.heap[g]? = some (.cells cs t fz)):g≠b:=by
 obtain ⟨D,⟨es,clock,hh,r⟩,q⟩:=h;intro e;rw [e,hh] at hg;cases hg
theorem yC.put {t:TypeId} (h:yC P k w b m f) (K:Keyed P k) (ht:P.underlying t=some (.map k e)) (hn:m < maxLen) {key val:Value} {kl:Lit} (hkey:keyOf P k key=some kl):
  ∃ w',(Instr.mapUpdate t (.map (some b)) key val).run P w=.ok () w'∧yC P k w' b (if (f kl).isSome=true then m else m+1) (zay f kl (some val))∧Chg (·=b) w w':=by
 obtain ⟨D,h,hm,q⟩:=h;obtain ⟨w',hr,h1,h2⟩:=h.update K ht hn hkey (show zfp val=some (.held val,[]) from rfl)
 have hz:Maps.size (D.put kl (.held val))=if (f kl).isSome=true then m else m+1:=by
  rw [size_put (h.tidy K),hm,(q kl).1]
 refine ⟨w',hr,⟨_,?_,hz,zgm q h.isMap (K.key hkey) val⟩,(Chg.of_grown h2).mono (fun x _ e=>by cases e;rfl)⟩;have:=zbY h1;rwa [hz] at this
end
section
variable {P:Program} {w:World} {ops:Array Oper} {rest:List Oper} {o:Oper} {a:Act} {Q:Exit->Act->World->Prop}
theorem yr (hg:o.guard=none) (m x:Operand) (t:TypeId) (hop:o.op=Op.lookup t m x true) (k e:TypeId) (K:Keyed P k) (ht:P.underlying t=some (.map k e)) (z:Value) (hz:(zeroValue e).run P w=.ok z w)
  (b n:Nat) (f:Lit->Option Value) (hm:a.eval m=.map (some b)) (hown:yC P k w b n f) (key:Value) (kl:Lit) (hx:a.eval x=key) (hkey:keyOf P k key=some kl)
  (v:Value) (r:Bool) (hv:(f kl).getD z=v) (hr:(f kl).isSome=r) (hK:wpList P ops Q rest (a.put o.dst (.tuple #[v,.bool r])) w):wpList P ops Q (o :: rest) a w:=by
 refine wpList_plain hg fun K' hK'=>?_;obtain ⟨D,h,_,q⟩:=hown;obtain ⟨v',ps,hrun,hv'⟩:=h.look_ok K ht hz (show zfp z=some (.held z,[]) from rfl) hkey;rw [xZ q,hv] at hv';have hv':=Xc hv';subst hv';rw [(q kl).1,hr] at hrun;unfold Oper.wp;simp [execOp,hop,hm,hx,hrun,Result.andThen];exact hK' _ _ hK
theorem yk (hg:o.guard=none) (m x v:Operand) (t:TypeId) (hop:o.op=Op.mapUpdate t m x v) (k e:TypeId) (K:Keyed P k) (ht:P.underlying t=some (.map k e)) (b n:Nat) (f:Lit->Option Value)
  (hm:a.eval m=.map (some b)) (hown:yC P k w b n f) (hn:n < maxLen) (key val:Value) (kl:Lit) (hx:a.eval x=key) (hv:a.eval v=val) (hkey:keyOf P k key=some kl)
  (hK:∀ w' n',yC P k w' b n' (zay f kl (some val))->((f kl).isSome=true->n'=n)->((f kl).isSome=false->n'=n+1)->n'<=n+1->Chg (·=b) w w'->wpList P ops Q rest (a.put o.dst undef) w'):wpList P ops Q (o :: rest) a w:=by
 refine wpList_plain hg fun K' hK'=>?_;obtain ⟨w',hrun,r1,r2⟩:=hown.put (val:=val) K ht hn hkey;unfold Oper.wp;simp [execOp,hop,hm,hx,hv,hrun,Result.andThen];refine hK' _ _ (hK w' _ r1 (fun h=>by rw [if_pos h]) (fun h=>by rw [h];rfl) (by split <;> omega) r2)
end
def Yz (P:Program) (k:TypeId) (w:World) (b r m:Nat) (f:Lit->Option Value) (left:Lit->Bool) (cnt:Nat):Prop:=
 ∃ D:DataW Value,w.ranges P k zfp b r m D left cnt∧Maps.size D=m∧zhE D f
section
variable {P:Program} {w:World} {ops:Array Oper} {rest:List Oper} {o:Oper} {a:Act} {Q:Exit->Act->World->Prop}
theorem zct (hg:o.guard=none) (m x:Operand) (t:TypeId) (hop:o.op=Op.lookup t m x false) (k e:TypeId) (K:Keyed P k) (ht:P.underlying t=some (.map k e)) (z:Value) (hz:(zeroValue e).run P w=.ok z w)
  (b n:Nat) (f:Lit->Option Value) (hm:a.eval m=.map (some b)) (hown:yC P k w b n f) (key:Value) (kl:Lit) (hx:a.eval x=key) (hkey:keyOf P k key=some kl)
  (v:Value) (hv:(f kl).getD z=v) (hK:wpList P ops Q rest (a.put o.dst v) w):wpList P ops Q (o :: rest) a w:=by
 refine wpList_plain hg fun K' hK'=>?_;obtain ⟨D,h,_,q⟩:=hown;obtain ⟨v',ps,hrun,hv'⟩:=h.lookup K ht hz (show zfp z=some (.held z,[]) from rfl) hkey;rw [xZ q,hv] at hv';have hv':=Xc hv';subst hv';unfold Oper.wp;simp [execOp,hop,hm,hx,hrun,Result.andThen];exact hK' _ _ hK
end
section
variable {P:Program} {k e:TypeId} {w:World} {b r m cnt:Nat} {f:Lit->Option Value} {left:Lit->Bool}
theorem Yz.map (h:Yz P k w b r m f left cnt):yC P k w b m f:=by
 obtain ⟨D,h,q⟩:=h;exact ⟨D,h.owns,q⟩
theorem Yz.left_eq (h:Yz P k w b r m f left cnt):w.rangeLeft b r=cnt:=by
 obtain ⟨D,h,q⟩:=h;exact h.left_eq
theorem Yz.chg {S:Nat->Prop} {w':World} (h:Yz P k w b r m f left cnt) (hc:Chg S w w') (hb:¬ S b) (hr:¬ S r):Yz P k w' b r m f left cnt:=by
 obtain ⟨D,h,q⟩:=h;obtain ⟨es,clock,since,seen,c0,h1,F,hs,hD,h2,rest⟩:=h;exact ⟨D,⟨es,clock,since,seen,c0,hc.obj hb h1,F,hs,hD,hc.obj hr h2,rest⟩,q⟩
theorem Yz.ne_cells (h:Yz P k w b r m f left cnt) {g:Nat} {cs:Array Value} {t:TypeId} {fz:Nat × Nat} (hg:w.heap[g]? = some (.cells cs t fz)):g≠r:=by
 obtain ⟨D,h,q⟩:=h;obtain ⟨es,clock,since,seen,c0,h1,F,hs,hD,h2,rest⟩:=h;intro e;rw [e,h2] at hg;cases hg
end
section
variable {P:Program} {w:World} {ops:Array Oper} {rest:List Oper} {o:Oper} {a:Act} {Q:Exit->Act->World->Prop}
theorem zbK (hg:o.guard=none) (m:Operand) (t:TypeId) (hop:o.op=Op.range t m) (k e:TypeId) (K:Keyed P k) (ht:P.underlying t=some (.map k e)) (b n:Nat) (f:Lit->Option Value)
  (hm:a.eval m=.map (some b)) (hown:yC P k w b n f)
  (hK:∀ w',Yz P k w' b w.heap.size n f (fun kl=>(f kl).isSome) n->Chg (fun _=>False) w w'->w'.heap.size=w.heap.size+1->wpList P ops Q rest (a.put o.dst (.pointer (some ⟨w.heap.size,0,none⟩))) w'):
  wpList P ops Q (o :: rest) a w:=by
 obtain ⟨D,h,hz,q⟩:=hown;refine wpList_range_own w hg m t hop k e K ht zfp b n D hm h fun w' r1 r2 r3=>?_;refine hK w' ⟨D,?_,hz,q⟩ ((Chg.of_grown r2).mono (fun x _ e=>by cases e)) r3;rw [hz] at r1;have:(Maps.has D)=fun kl=>(f kl).isSome:=funext fun kl=>(q kl).1;rwa [this] at r1
theorem zcs (hg:o.guard=none) (it:Operand) (hop:o.op=Op.next it false) (k:TypeId) (qk:IntKind) (K:Keyed P k) (hk:P.underlying k=some (.int qk)) (b r n:Nat) (f:Lit->Option Value) (left:Lit->Bool) (cnt:Nat)
  (hit:a.eval it=.pointer (some ⟨r,0,none⟩)) (h:Yz P k w b r n f left cnt)
  (hDone:cnt=0->(∀ kl,left kl=false)->wpList P ops Q rest (a.put o.dst (.tuple #[.bool false])) w)
  (hMore:∀ (x:Int) (v:Value) (w':World) (cnt':Nat),left (.int qk x)=true->f (.int qk x)=some v->Yz P k w' b r n f (fun z=>left z && !z.sameKey (.int qk x)) cnt'->cnt' < cnt->Chg (·=r) w w'->w'.heap.size=w.heap.size ->
   (Instr.entry (.pointer (some ⟨r,0,none⟩))).run P w'=.ok (.tuple #[.int qk x,v]) w'->wpList P ops Q rest (a.put o.dst (.tuple #[.bool true,.int qk x,v])) w'):
  wpList P ops Q (o :: rest) a w:=by
 obtain ⟨D,h,hz,q⟩:=h;refine wpList_next_ranges w hg it hop k K zfp (Value.int qk) (fun v:Value=>v) (fun key kl hkey=>by obtain ⟨x,rfl,_⟩:=Maps.keyOf_int_inv hk hkey;exact ⟨x,rfl⟩) (fun v y _=>⟨v,rfl⟩) b r n D left cnt hit h hDone ?_;intro x c kl y w' cnt' hkey hlk hv hat hrg hlt hgr hsz hen;obtain ⟨x',ex,rfl,hwx⟩:=Maps.keyOf_int_inv hk hkey;cases ex;have hy:y=(.held c,[]):=by unfold zfp at hv;cases hv;rfl
 subst hy
 have hf:f (.int qk x)=some c:=by
  have hh:Maps.has D (.int qk x)=true:=by
   refine has_true_of_atKey (y:=.held c) fun z=>hat z
  rw [(q _).1] at hh;cases hfx:f (.int qk x) with
  | none=>rw [hfx] at hh;cases hh
  | some v=>
   have:=(q _).2 v hfx (.held c);rw [hat] at this;cases this;rfl
 exact hMore x c w' cnt' hlk hf ⟨D,hrg,hz,q⟩ hlt ((Chg.of_grown hgr).mono (fun x _ e=>by cases e;rfl)) hsz hen
end
def YA (w:World) (v:Value) (G:Nat->Prop) (l:List Int):Prop:=
 ∃ la cap,v=.slice la l.length cap∧l.length<=maxLen∧∀ (j:Nat) x,l[j]? = some x->∃ g o,la=some ⟨g,o,none⟩∧G g∧w.cell? ⟨g,o+j,none⟩=some (.int .i64 x)
theorem YA.chg {S:Nat->Prop} {w w':World} {v:Value} {G:Nat->Prop} {l:List Int} (h:YA w v G l) (hc:Chg S w w') (hs:∀ k,G k->¬ S k):YA w' v G l:=by
 obtain ⟨la,cap,h1,h2,h3⟩:=h;exact ⟨la,cap,h1,h2,fun j x hj=>by obtain ⟨g,o,q1,q2,q3⟩:=h3 j x hj;exact ⟨g,o,q1,q2,zj hc (hs g q2) q3⟩⟩
theorem Xx (w:World) (l:List Int) (ty:TypeId) (hl:l.length<=1000):YA (w.alloc (.cells (l.map (Value.int .i64)).toArray ty)) (.slice (some ⟨w.heap.size,0,none⟩) l.length l.length) (fun k=>k=w.heap.size) l:=
 ⟨_,_,rfl,by unfold maxLen;omega,fun j x hj=>⟨_,0,rfl,rfl,by
  rw [Nat.zero_add];exact zg (zh _ _) (by simp [hj])⟩⟩
set_option maxRecDepth 100000 in
theorem zfH (w:World) (v:Value) (G:Nat->Prop) (l:List Int) (x:Int) (hv:YA w v G l):
  Calls Tryz.prog 328 #[v,.int .i64 x] w fun e w'=>(∃ i:Int,e=.returned (.int .i64 i)∧decide (0<=i)=decide (x∈l))∧w=w':=by
 obtain ⟨la,cap,rfl,hl0,hcl⟩:=hv;have HCL:=zf hcl;unfold maxLen at hl0;clear hcl;go_enter Tryz.func328,Tryz.ntmps328;go_wp2;go_loop [8] (fun iv=>∃ k:Nat,k<=l.length∧iv=.int .i64 k∧Hid (x ∉ l.take k)) (fun iv=>l.length - (intOf iv).toNat)
 case atStart=>exact ⟨0,by omega,rfl,zf (by simp)⟩
 case round=>
  obtain ⟨k,hk,rfl,HI⟩:=hrel;by_cases hlt:k < l.length
  ·obtain ⟨y,hy⟩:∃ y,l[k]? = some y:=⟨_,zlz hlt⟩
   obtain ⟨lb,lo,rfl,_,c0⟩:=HCL.out k y hy;by_cases hxy:x=y
   ·have R:=zf (show x∈l from by rw [hxy];exact zlB hy)
    have e1:(x == y)=true:=beq_iff_eq.2 hxy;clear HI hy hxy;go_wp2;go_ret;exact ⟨⟨_,rfl,⟨fun _=>R.out,fun _=>by omega⟩⟩,rfl⟩
   ·have e1:(x == y)=false:=zlI.2 hxy
    have HI2:=zf (show x ∉ l.take (k+1) from by
     rw [zlR,hy];simp only [Option.toList_some,zlL,List.mem_singleton,not_or];exact ⟨HI.out,hxy⟩)
    clear HI hy hxy;go_wp2;go_round
    case rel=>exact ⟨k+1,by omega,by go_num,HI2⟩
    case measure=>simp [intOf];omega
  ·obtain rfl:k=l.length:=by omega
   have R:=zf (show x ∉ l from by have:=HI.out;rwa [zlT] at this);go_wp2;go_ret;exact ⟨⟨_,rfl,⟨fun q=>by omega,fun q=>(R.out q).elim⟩⟩,rfl⟩
theorem zcc (w:World) (v:Value) (G:Nat->Prop) (l:List Int) (x:Int) (hv:YA w v G l):
  Calls Tryz.prog 298 #[v,.int .i64 x] w fun e w'=>e=.returned (.bool (decide (x∈l)))∧w=w':=by
 have IX:=zf (zfH w v G l x hv);obtain ⟨la,cap,rfl,hl0,hcl⟩:=hv;clear hcl;generalize decide (x∈l)=r at *;go_enter Tryz.func298,Tryz.ntmps298;go_wp2_with fail;(with_reducible refine IX.out.mono ?_);rintro e w2 ⟨⟨i,rfl,hi⟩,rfl⟩;go_wp2;go_ret;exact ⟨rfl,rfl⟩
def zhK (ks:List Nat):List Int:=ks.map fun (k:Nat)=>(k:Int)
theorem zib {ks:List Nat} {a:Nat}:((a:Int)∈zhK ks)↔a∈ks:=by
 unfold zhK;rw [List.mem_map];constructor
 ·rintro ⟨k,hk,e⟩
  have:k=a:=by omega
  rwa [<- this]
 ·exact fun h=>⟨a,h,rfl⟩
theorem zeN (w:World) (a:Nat) (v:Value) (G:Nat->Prop) (ks:List Nat) (ha:a < 65536) (hv:YA w v G (zhK ks)):
  Calls Tryz.prog 258 #[.int .u16 (a:Nat),v] w fun e w'=>e=.returned (.bool (decide (a / 8192∈ks)))∧w=w':=by
 have CT:=zcc w v G (zhK ks) ((a / 8192:Nat):Int) hv;rw [show decide (((a / 8192:Nat):Int)∈zhK ks)=decide (a / 8192∈ks) from by rw [decide_eq_decide];exact zib] at CT;have e1:IntKind.i64.wrap (a:Int)=(a:Int):=by rw [IntKind.wrap_i64];omega
 have e2:((a / 8192:Nat):Int)=(a:Int) / 8192:=by omega
 rw [e2] at CT;have CT:=zf CT;obtain ⟨la,cap,rfl,hl0,hcl⟩:=hv;clear hcl e2;generalize decide (a / 8192∈ks)=r at *;go_enter Tryz.func258,Tryz.ntmps258;go_wp2_with fail;(with_reducible refine CT.out.mono ?_);rintro e w2 ⟨rfl,rfl⟩;go_wp2;go_ret;exact ⟨rfl,rfl⟩
theorem zdj (w:World) (s:ByteArray) (v:Value) (G:Nat->Prop) (ks:List Nat) (hs:s.size<=maxLen) (hv:YA w v G (zhK ks)):
  Calls Tryz.prog 300 #[.string s,v] w fun e w'=>e=.returned (.bool (Zi s ks))∧Chg (fun _=>False) w w':=by
 have L1:=zf (yf w s hs);by_cases h1:zI s.data.toList=1
 ·have AT:=ziU w s 0 hs (by omega)
  change Calls Tryz.prog 248 #[.string s,.int .i64 0] w _ at AT;have AT:=zf AT;have IO:=zf (fun w1 (q:Chg (fun _=>False) w w1)=>zeN w1 (zL s.data.toList 0) v G ks (ye _ _) (hv.chg q (fun _ _ e=>e)));have R:=zf (show Zi s ks=decide (zL s.data.toList 0 / 8192∈ks) from by unfold Zi;rw [zlx h1];rfl);rw [h1] at L1;obtain ⟨la,cap,rfl,hl0,hcl⟩:=hv;clear hcl h1;generalize zL s.data.toList 0=a at *;generalize decide (a / 8192∈ks)=r at *;go_enter Tryz.func300,Tryz.ntmps300;go_wp2_with fail;(with_reducible refine L1.out.mono ?_);rintro e w2 ⟨rfl,rfl⟩;go_wp2_with fail;(with_reducible refine AT.out.mono ?_);rintro e w3 ⟨rfl,k3⟩;have I3:=zf (IO.out w3 k3);go_wp2_with fail;(with_reducible refine I3.out.mono ?_);rintro e w4 ⟨rfl,rfl⟩;go_wp2;go_ret;exact ⟨by rw [R.out];rfl,k3⟩
 ·have R:=zf (show Zi s ks=false from by unfold Zi;rw [zly h1];rfl)
  have e1:((zI s.data.toList:Int) == 1)=false:=zlI.2 (by omega);obtain ⟨la,cap,rfl,hl0,hcl⟩:=hv;clear hcl h1;go_enter Tryz.func300,Tryz.ntmps300;go_wp2_with fail;(with_reducible refine L1.out.mono ?_);rintro e w2 ⟨rfl,rfl⟩;go_wp2;go_ret;exact ⟨by rw [R.out];rfl,Chg.refl _ _⟩
set_option maxRecDepth 100000 in
theorem zjp (w:World) (v:Value) (G:Nat->Prop) (l:List Int) (hv:YA w v G l):
  Calls Tryz.prog 259 #[v] w fun e w'=>e=.returned (.bool (l.all XN))∧w=w':=by
 obtain ⟨la,cap,rfl,hl0,hcl⟩:=hv;have HCL:=zf hcl;unfold maxLen at hl0;clear hcl;go_enter Tryz.func259,Tryz.ntmps259;go_wp2;go_loop [7] (fun iv=>∃ k:Nat,k<=l.length∧iv=.int .i64 k∧Hid ((l.take k).all XN=true)) (fun iv=>l.length - (intOf iv).toNat)
 case atStart=>exact ⟨0,by omega,rfl,zf rfl⟩
 case round=>
  obtain ⟨k,hk,rfl,HI⟩:=hrel;by_cases hlt:k < l.length
  ·obtain ⟨y,hy⟩:∃ y,l[k]? = some y:=⟨_,zlz hlt⟩
   obtain ⟨lb,lo,rfl,_,c0⟩:=HCL.out k y hy;by_cases hn:XN y=true
   ·have HI2:=zf (show (l.take (k+1)).all XN=true from by
     rw [zlR,hy,List.all_append,HI.out];simp [hn])
    have hn2:0<=y∧y<=4611686018427387904:=of_decide_eq_true hn;have g1:decide (y < 0)=false:=zly (by omega);have g2:decide (4611686018427387904 < y)=false:=zly (by omega);clear HI hy hn hn2;go_wp2;go_round
    case rel=>exact ⟨k+1,by omega,by go_num,HI2⟩
    case measure=>simp [intOf];omega
   ·have R:=zf (show l.all XN=false from by
     rw [List.all_eq_false];exact ⟨y,zlB hy,hn⟩)
    have hn2:¬ (0<=y∧y<=4611686018427387904):=fun q=>hn (zlx q);clear HI hy hn;by_cases h0:y < 0
    ·have g1:decide (y < 0)=true:=zlx h0
     clear hn2 h0;go_wp2;go_ret;exact ⟨by rw [R.out];rfl,rfl⟩
    ·have g1:decide (y < 0)=false:=zly h0
     have g2:decide (4611686018427387904 < y)=true:=zlx (by omega);clear hn2 h0;go_wp2;go_ret;exact ⟨by rw [R.out];rfl,rfl⟩
  ·obtain rfl:k=l.length:=by omega
   have R:=zf (show l.all XN=true from by have:=HI.out;rwa [zlT] at this);go_wp2;go_ret;exact ⟨by rw [R.out];rfl,rfl⟩
set_option maxRecDepth 100000 in
theorem zah (w:World) (g o cap a:Nat) (ha:a < 65536) (hc:w.cell? ⟨g,o,none⟩=some (.int .u16 ((a:Nat):Int))):
  Calls Tryz.prog 65 #[.slice (some ⟨g,o,none⟩) 1 cap] w fun e w'=>e=.returned (.string (ZL a))∧Chg (fun _=>False) w w':=by
 have hmk:∀ w:World,(Instr.makeSlice 23 (.int .i64 0) (.int .i64 2)).run Tryz.prog w=.ok (.slice (some ⟨w.heap.size,0,none⟩) 0 2) (w.alloc (.cells #[.int .u8 0,.int .u8 0] 5)):=fun _=>by kernel_rfl
 have HC:=zf hc;clear hc;go_enter Tryz.func65,Tryz.ntmps65;go_wp2;go_loopw [3,12] (fun lv iv wr=>∃ k:Nat,k<=1∧iv=.int .i64 k∧Hid (wr.ownsRow w.heap.size 5 1 lv (2*k) (zE (Ze ([a].take k)))∧Chg (fun _=>False) w wr)) (fun _ iv _=>1 - (intOf iv).toNat)
 case atStart=>exact ⟨0,by omega,rfl,zf ⟨⟨rfl,.inr ⟨w.heap.size,2,_,rfl,zlS _,zh _ _,by omega,by unfold maxLen;omega,rfl,rfl⟩⟩,zi _ _ _⟩⟩
 case round=>
  obtain ⟨k,hk,rfl,HI⟩:=hrel;have hsz:w.heap.size<=wr.heap.size:=HI.out.2.size;by_cases hlt:k < 1
  ·obtain rfl:k=0:=by omega
   have c0:=zj HI.out.2 (fun e=>e) HC.out;have O0:=zf HI.out.1;have K0:=zf HI.out.2;have V1:=zf (show Value.int .u8 ((a:Int) / 256)=yL (UInt8.ofNat (a / 256)) from ZR (a / 256) _ (by omega) (by omega));have V2:=zf (show Value.int .u8 ((a:Int) % 256)=yL (UInt8.ofNat (a % 256)) from ZR (a % 256) _ (by omega) (by omega));clear HI;obtain ⟨la,lc,rfl⟩:=zl O0.out;have kb:=zi (fun _=>False) wr (.cells #[.int .u8 ((a:Int) / 256),.int .u8 ((a:Int) % 256)] 5);have SU:=zf (show (wr.alloc (.cells #[.int .u8 ((a:Int) / 256),.int .u8 ((a:Int) % 256)] 5)).ownsRow 0 5 1 (.slice (some ⟨wr.heap.size,0,none⟩) 2 2) 2 [.int .u8 ((a:Int) / 256),.int .u8 ((a:Int) % 256)] from ⟨rfl,.inr ⟨wr.heap.size,2,_,rfl,Nat.zero_le _,zh _ _,zlS _,by unfold maxLen;omega,rfl,rfl⟩⟩);have OU:=zf (zo O0.out kb (fun _ _ e=>e));have KU:=zf (K0.out.trans kb);clear kb O0 K0;go_wp2_with (at_builtin;refine zap rfl (.tmp 16) (.tmp 22) 23 rfl 5 1 1 Tryz.underlying23 Tryz.elemByte w.heap.size _ _ _ rfl OU.out 0 _ _ _ rfl SU.out (by intro z hz;simp at hz;rcases hz with rfl | rfl <;> rfl) (by omega) (by unfold maxLen;omega) ?a1 ?nx1)
   case a1=>simp;omega
   intro v5 w5 o5 g5;have K5:=zf (KU.out.own OU.out (Chg.of_grown g5));rw [V1.out,V2.out] at o5;have O5:=zf (show w5.ownsRow w.heap.size 5 1 v5 2 (zE (Ze [a])) from o5);clear o5 g5 OU KU SU V1 V2;obtain ⟨l5,c5,rfl⟩:=zl O5.out;go_wp2;go_roundw
   case rel=>exact ⟨1,by omega,by go_num,zf ⟨O5.out,K5.out⟩⟩
   case measure=>simp [intOf]
  ·obtain rfl:k=1:=by omega
   have K1:=zf HI.out.2;obtain ⟨ra,rc,rfl,hrl,hcl⟩:=YW (n:=2) (xs:=zE (Ze [a])) HI.out.1;obtain ⟨g2,rfl,_,_⟩:=hcl 0 _ (yq (Ze [a]) 0 (by simp [Ze]))
   have hcv:=run_convert_bytes_arg (P:=Tryz.prog) wr 23 5 Tryz.underlying23 Tryz.underlying5 g2 0 2 rc ((Ze [a]).map fun c=>(c.toNat:Int)) (by simp [Ze])
    (fun i hi=>by
     obtain ⟨g',e',_,cx⟩:=hcl i _ (yq (Ze [a]) i (by simpa [Ze] using hi));cases e';rw [Nat.zero_add];exact cx) 29 Tryz.underlying29
   rw [ZA] at hcv;clear hcl HI;go_wp2;go_ret;exact ⟨rfl,K1.out⟩
theorem zi6:Keyed Tryz.prog 29:=string_keyed Tryz.underlying29
theorem zf6 (s:ByteArray) (h:s.size<=maxLen):keyOf Tryz.prog 29 (.string s)=some (.string s.data.toList):=WideMaps.keyOf_string_mk Tryz.underlying29 h
open Classical in
noncomputable def inF (l:List ByteArray):Lit->Option Value:=fun kl=>if ∃ s∈l,kl=.string s.data.toList then some (.agg #[]) else none
theorem Yx {a b:ByteArray} (h:a.data.toList=b.data.toList):a=b:=by
 cases a;cases b;simp only [ByteArray.mk.injEq];exact Array.toList_inj.1 h
theorem zfJ (l:List ByteArray) (s:ByteArray):(inF l (.string s.data.toList)).isSome=zb9 l s:=by
 unfold inF zb9;by_cases h:s∈l
 ·rw [if_pos ⟨s,h,rfl⟩,zlx h];rfl
 ·rw [if_neg,zly h]
  ·rfl
  ·rintro ⟨u,hu,e⟩
   rw [Lit.string.injEq] at e;exact h (by rw [Yx e];exact hu)
theorem zju:(fun _=>none)=inF []:=by
 funext kl
 unfold inF;rw [if_neg];rintro ⟨u,hu,_⟩;cases hu
theorem zjt (l:List ByteArray) (s:ByteArray):zay (inF l) (.string s.data.toList) (some (.agg #[]))=inF (l++[s]):=by
 funext kl
 by_cases h:kl=.string s.data.toList
 ·subst h
  rw [yv];unfold inF;rw [if_pos ⟨s,by simp,rfl⟩]
 ·rw [Zg _ h]
  unfold inF;by_cases q:∃ u∈l,kl=.string u.data.toList
  ·obtain ⟨u,hu,e⟩:=q
   rw [if_pos ⟨u,hu,e⟩,if_pos ⟨u,List.mem_append_left _ hu,e⟩]
  ·rw [if_neg q,if_neg]
   rintro ⟨u,hu,e⟩;rcases zlL.1 hu with hu | hu
   ·exact q ⟨u,hu,e⟩
   ·rw [List.mem_singleton] at hu
    subst hu;exact h e
theorem zd3 (w:World) (n:Int):(Instr.makeMap 494 (some (.int .i64 n))).run Tryz.prog w=.ok (.map (some w.heap.size)) (w.alloc (.map #[] 0)):=by
 have h:(asInt (.int .i64 n)).run Tryz.prog w=.ok n w:=rfl;simp [Instr.makeMap,run_underlying Tryz.underlying494,h]
set_option maxHeartbeats 1000000 in
set_option maxRecDepth 100000 in
theorem za9 (w:World) (av bv:Value) (a b:List ByteArray) (G G':Nat->Prop) (ha:zV w av G a) (hb:zV w bv G' b) (hlb:b.length<=1000):
  Calls Tryz.prog 360 #[av,bv] w fun e w'=>e=.returned (.bool (a.all (zb9 b)))∧Chg (fun _=>False) w w':=by
 have HA:=zf ha;have HB:=zf hb;obtain ⟨aa,acap,rfl,hl0,_⟩:=ha;obtain ⟨ba,bcap,rfl,hl1,_⟩:=hb;unfold maxLen at hl0 hl1;go_enter Tryz.func360,Tryz.ntmps360;have M0:=zf (show yC Tryz.prog 29 (w.alloc (.map #[] 0)) w.heap.size 0 (inF []) from by rw [<- zju];exact yC.made _ _ _);have hws:w.heap.size<=w.heap.size:=zlS _;have HZU:=zf (fun w:World=>(show (zeroValue 359).run Tryz.prog w=.ok (.agg #[]) w from by kernel_rfl));have hmk:=zd3 w (b.length:Int);go_wp2;go_loopw [17] (fun iv wr=>∃ k:Nat,k<=b.length∧iv=.int .i64 k∧Hid ((∃ m,m<=k∧yC Tryz.prog 29 wr w.heap.size m (inF (b.take k)))∧Chg (fun _=>False) w wr)) (fun iv _=>b.length - (intOf iv).toNat)
 case atStart=>exact ⟨0,by omega,rfl,zf ⟨⟨0,zlS _,M0.out⟩,zi _ _ _⟩⟩
 case round=>
  obtain ⟨k,hk,rfl,HI⟩:=hrel;clear M0;by_cases hlt:k < b.length
  ·obtain ⟨x,hx⟩:∃ x,b[k]? = some x:=⟨_,zlz hlt⟩
   obtain ⟨_,_,e1,_,hcl⟩:=HB.out.chg HI.out.2 (fun _ _ e=>e);cases e1;obtain ⟨lb,lo,rfl,_,c0,hxs⟩:=hcl k x hx;obtain ⟨⟨m,hmk,hM⟩,hC⟩:=HI.out;have MV:=zf hM;have KC:=zf hC;have TK:=zf (show b.take (k+1)=b.take k++[x] by rw [zlR,hx];rfl);have KEY:=zf (zf6 x hxs);clear hcl hx hM hC HI hxs;go_wp2_with (at_mapUpdate;refine yk rfl (.tmp 21) (.tmp 22) (.tmp 23) 494 rfl 29 359 zi6 Tryz.underlying494 w.heap.size m _ rfl MV.out ?c1 (.string x) (.agg #[]) (.string x.data.toList) rfl rfl KEY.out ?next)
   case c1=>unfold maxLen;omega
   case next=>
    intro w3 m3 hm3 _ _ hm3k hc3;rw [zjt,<- TK.out] at hm3;have K3:=zf (KC.out.next hc3 (fun x hx e=>by omega));have M3:=zf (show ∃ m,m<=k+1∧yC Tryz.prog 29 w3 w.heap.size m (inF (b.take (k+1))) from ⟨_,by omega,hm3⟩);clear hm3 hc3 MV KC c0;go_wp2;go_roundw
    case rel=>exact ⟨k+1,by omega,by go_num,zf ⟨M3.out,K3.out⟩⟩
    case measure=>simp [intOf];omega
  ·obtain rfl:k=b.length:=by omega
   obtain ⟨⟨m,_,hM⟩,hC⟩:=HI.out;rw [zlT] at hM;have M2:=zf hM;have K2:=zf hC;clear HI hM hC;generalize wr=wo at *;go_wp2;go_loopw [27] (fun iv wr=>∃ k:Nat,k<=a.length∧iv=.int .i64 k∧Hid ((a.take k).all (zb9 b)=true∧Chg (fun _=>False) wo wr)) (fun iv _=>a.length - (intOf iv).toNat)
   case atStart=>exact ⟨0,by omega,rfl,zf ⟨rfl,Chg.refl _ _⟩⟩
   case round=>
    obtain ⟨k,hk,rfl,HI⟩:=hrel;by_cases hlt:k < a.length
    ·obtain ⟨x,hx⟩:∃ x,a[k]? = some x:=⟨_,zlz hlt⟩
     obtain ⟨_,_,e1,_,hcl⟩:=HA.out.chg (K2.out.trans HI.out.2) (fun _ _ e=>e);cases e1;obtain ⟨lb,lo,rfl,_,c0,hxs⟩:=hcl k x hx;have MV:=zf (M2.out.chg HI.out.2 (fun e=>e));have KI:=zf HI.out.2
     have AL:=zf (show (a.take (k+1)).all (zb9 b)=zb9 b x from by
      rw [zlR,hx,List.all_append,HI.out.1];simp)
     have AF:=zf (show zb9 b x=false->a.all (zb9 b)=false from fun h=>by
      rw [List.all_eq_false];exact ⟨x,zlB hx,by rw [h];simp⟩)
     have KEY:=zf (zf6 x hxs);have IS:=zf (zfJ b x)
     have VAL:=zf (show (inF b (.string x.data.toList)).getD (.agg #[])=.agg #[] from by
      unfold inF;split <;> rfl)
     clear hcl hx HI hxs;cases hh:zb9 b x with
     | true=>
      rw [hh] at AL IS;clear AF hh;go_wp2_with (at_lookup;refine yr rfl (.tmp 32) (.tmp 33) 494 rfl 29 359 zi6 Tryz.underlying494 (.agg #[]) (HZU.out _) w.heap.size m _ rfl MV.out (.string x) (.string x.data.toList) rfl KEY.out (.agg #[]) true VAL.out IS.out ?n2a);go_roundw
      case rel=>exact ⟨k+1,by omega,by go_num,zf ⟨AL.out,(KI.out.alloc (.cells #[] 359))⟩⟩
      case measure=>simp [intOf];omega
     | false=>
      rw [hh] at IS;have R:=zf (AF.out hh);clear AF hh AL;go_wp2_with (at_lookup;refine yr rfl (.tmp 32) (.tmp 33) 494 rfl 29 359 zi6 Tryz.underlying494 (.agg #[]) (HZU.out _) w.heap.size m _ rfl MV.out (.string x) (.string x.data.toList) rfl KEY.out (.agg #[]) false VAL.out IS.out ?n2b);go_ret;exact ⟨by rw [R.out];rfl,K2.out.trans (KI.out.alloc (.cells #[] 359))⟩
    ·obtain rfl:k=a.length:=by omega
     have R:=zf (show a.all (zb9 b)=true from by have:=HI.out.1;rwa [zlT] at this);have KI:=zf HI.out.2;clear HI;go_wp2;go_ret;exact ⟨by rw [R.out];rfl,K2.out.trans KI.out⟩
theorem zgo (w:World) (av bv:Value) (a b:List ByteArray) (G G':Nat->Prop) (ha:zV w av G a) (hb:zV w bv G' b) (hla:a.length<=1000) (hlb:b.length<=1000):
  Calls Tryz.prog 330 #[av,bv] w fun e w'=>e=.returned (.bool (a.all (zb9 b) && b.all (zb9 a)))∧Chg (fun _=>False) w w':=by
 have W1:=zf (za9 w av bv a b G G' ha hb hlb);have W2:=zf (fun w1 (k:Chg (fun _=>False) w w1)=>za9 w1 bv av b a G' G (hb.chg k (fun _ _ e=>e)) (ha.chg k (fun _ _ e=>e)) hla);obtain ⟨aa,acap,rfl,hl0,_⟩:=ha;obtain ⟨ba,bcap,rfl,hl1,_⟩:=hb;generalize a.all (zb9 b)=r at *;generalize b.all (zb9 a)=q at *;go_enter Tryz.func330,Tryz.ntmps330;cases r with
 | false=>
  go_wp2_with fail;(with_reducible refine W1.out.mono ?_);rintro e w2 ⟨rfl,k2⟩;go_wp2;go_ret;exact ⟨rfl,k2⟩
 | true=>
  go_wp2_with fail;(with_reducible refine W1.out.mono ?_);rintro e w2 ⟨rfl,k2⟩;have W3:=zf (W2.out w2 k2);have K2:=zf k2;clear k2 W1 W2;go_wp2_with fail;(with_reducible refine W3.out.mono ?_);rintro e w3 ⟨rfl,k3⟩;go_wp2;go_ret;exact ⟨rfl,K2.out.trans k3⟩
end Go.Proofs.YtcilaocknhphnaaGreat
