/-
  Maps whose elements are told as they lie there: lookups, stores, deletions, how many there are, ranges. Package set: Same; Of of two words. Package set: Of: words sorted, each once (slices.SortFunc and Compact by the shelf's contracts). Package word: within, Find, Swap (where they are asked right). Package reach: Counts, machine. Package reach: machine. Layer 11: single steps (plain). Package reach: a row where it lies; put. Package reach: steps, and the iterator that it hands back. Package reach: one word's steps, ranged over (walkAll's inner loop). Package reach: what a round of walkAll's inner loop leaves; the iterator as the range's law wants it; marks of ranges at a function's end. Package reach: walkAll. Package reach: walkAll where it is asked wrongly; All. The reference's Sub, Swap, Counts, Use; its row, Place. The reference's Find. The reference's All. What the arguments' readings say, in the words of the walks: rules, steps. Reach: what the laws of many layers lean on. What reach.Leads tells, in plain Lean. word.Find. Package cert: delegate, like. A variable of many cells, written whole; a set of one word. Package cert: like, Check. The reference's Less. The reference's Equal. The reference's Right and And. Sets of words: the reference's May. What the reference's like and Check say, in plain Lean. The reference's Kind, single, num and like. The reference's Check. Entries of access lists in memory; append of a slice that is cut full; the lists in plain Lean.
-/
import Derived.Test.YtcilaocknhphnaaGreatZrKit2
import Derived.Maps.Own
import Derived.Maps.OwnOps
import Derived.Maps.OwnSet
import Derived.Maps.Views
import Derived.Maps.RangeWalk
import Derived.WalkSpells
import Derived.Test.YtcilaocknhphnaaGreatZrCCert1
import Derived.Shelf.SlSortCmp.Whole1
import Derived.Shelf.SlicesE.Compact
import Derived.Shelf.SlGeneric
import Derived.Shelf.Lay
import Derived.Ground.SlsfProg
import Derived.Ground.SlgnProg
import Derived.Test.YtcilaocknhphnaaGreatZrSSet
import Derived.Test.YtcilaocknhphnaaGreatZrRPlain
import Derived.WalkLawsBesides
import Derived.Laws.NewBlocks
import Derived.Laws.OwnMore
import Derived.Laws.MakeOwn
import Derived.RangeFuncNested
import Derived.RangeFuncBound
import Derived.RangeFuncCalls
import Derived.RangeFuncLeaves
import Derived.Shelf.Abstract
import Derived.Shelf.RegionOpen
import Derived.WalkKit
import Derived.OwnWalkIn
import Derived.TacticsInMore
import Derived.LoopNIn
import Derived.LoopIn
import Derived.Sort.QuietIn
import Derived.Lib.SmallJoins
import Derived.SizedLaws
import Derived.Deep.DeepCutAuto
import Derived.Deep.CutBlock
import Derived.Deep.Upon
namespace Go.Proofs.YtcilaocknhphnaaGreat
open Go.RowKit Go.Maps
def zgp (v:Value):Option (DataW Value × List MemPlace):=some (.held v,[])
def zdl (D:DataW Value) (f:Lit->Option Value):Prop:=∀ kl,Maps.has D kl=(f kl).isSome∧∀ v,f kl=some v->∀ z,D.atKey kl z=.held v
def zbN (P:Program) (k:TypeId) (w:World) (b m:Nat) (f:Lit->Option Value):Prop:=
 ∃ D:DataW Value,w.ownsMap P k zgp b m D∧Maps.size D=m∧zdl D f
open Classical in
noncomputable def zfR (f:Lit->Option Value) (kl:Lit) (d:Option Value):Lit->Option Value:=fun x=>if x=kl then d else f x
theorem zbb (f:Lit->Option Value) (kl:Lit) (d:Option Value):zfR f kl d kl=d:=if_pos rfl
theorem XK (f:Lit->Option Value) {kl x:Lit} (h:x≠kl) (d:Option Value):zfR f kl d x=f x:=if_neg h
theorem YE {H:Type} {P:Program} {k:TypeId} {R:Value->Option (DataW H × List MemPlace)} {w:World} {b n:Nat} {D:DataW H} (h:w.ownsMap P k R b n D):w.ownsMap P k R b (Maps.size D) D:=by
 obtain ⟨es,clock,hb,F,_,rfl⟩:=h;exact ⟨es,clock,hb,F,by simp [Maps.size,length_sorted],rfl⟩
theorem zdv {D:DataW Value} {f:Lit->Option Value} (q:zdl D f) (hD:IsMap D) {kl:Lit} (hk:WideAt.IsKeyLit kl) (v:Value):zdl (D.put kl (.held v)) (zfR f kl (some v)):=by
 intro x;by_cases hx:x=kl
 ·subst hx
  rw [zbb];exact ⟨has_put_same hD hk _,fun d e z=>by cases e;exact atKey_put_same hD hk _ z⟩
 ·rw [XK f hx,has_put_other hx]
  exact ⟨(q x).1,fun d e z=>by rw [atKey_put_other hx];exact (q x).2 d e z⟩
section
variable {P:Program} {k e:TypeId} {w:World} {b m:Nat} {f:Lit->Option Value}
theorem zbN.made (P:Program) (k:TypeId) (w:World):zbN P k (w.alloc (.map #[] 0)) w.heap.size 0 (fun _=>none):=
 ⟨.map [],World.ownsMap_made w P k _,rfl,fun _=>⟨rfl,fun d h=>by cases h⟩⟩
theorem zbN.chg {S:Nat->Prop} {w':World} (h:zbN P k w b m f) (hc:Chg S w w') (hs:¬ S b):zbN P k w' b m f:=by
 obtain ⟨D,⟨es,clock,hh,r⟩,q⟩:=h;exact ⟨D,⟨es,clock,hc.obj hs hh,r⟩,q⟩
theorem zbN.lt (h:zbN P k w b m f):b < w.heap.size:=by
 obtain ⟨D,h,q⟩:=h;exact h.lt
theorem zbN.ne_cells (h:zbN P k w b m f) {g:Nat} {cs:Array Value} {t:TypeId} {fz:Nat × Nat} (hg:w.heap[g]? = some (.cells cs t fz)):g≠b:=by
 obtain ⟨D,⟨es,clock,hh,r⟩,q⟩:=h;intro e;rw [e,hh] at hg;cases hg
theorem zbN.put {t:TypeId} (h:zbN P k w b m f) (K:Keyed P k) (ht:P.underlying t=some (.map k e)) (hn:m < maxLen) {key val:Value} {kl:Lit} (hkey:keyOf P k key=some kl):
  ∃ w',(Instr.mapUpdate t (.map (some b)) key val).run P w=.ok () w'∧zbN P k w' b (if (f kl).isSome=true then m else m+1) (zfR f kl (some val))∧Chg (·=b) w w':=by
 obtain ⟨D,h,hm,q⟩:=h;obtain ⟨w',hr,h1,h2⟩:=h.update K ht hn hkey (show zgp val=some (.held val,[]) from rfl)
 have hz:Maps.size (D.put kl (.held val))=if (f kl).isSome=true then m else m+1:=by
  rw [size_put (h.tidy K),hm,(q kl).1]
 refine ⟨w',hr,⟨_,?_,hz,zdv q h.isMap (K.key hkey) val⟩,(Chg.of_grown h2).mono (fun x _ e=>by cases e;rfl)⟩;have:=YE h1;rwa [hz] at this
end
def yW (P:Program) (k:TypeId) (w:World) (b r m:Nat) (f:Lit->Option Value) (left:Lit->Bool) (cnt:Nat):Prop:=
 ∃ D:DataW Value,w.ranges P k zgp b r m D left cnt∧Maps.size D=m∧zdl D f
theorem zdL (w:World) (n:Int):(Instr.makeMap 494 (some (.int .i64 n))).run Tryz.prog w=.ok (.map (some w.heap.size)) (w.alloc (.map #[] 0)):=by
 have h:(asInt (.int .i64 n)).run Tryz.prog w=.ok n w:=rfl;simp [Instr.makeMap,run_underlying Tryz.underlying494,h]
end Go.Proofs.YtcilaocknhphnaaGreat
namespace Go.Proofs
open Go.Shelf
shelf_lay_g SlLaysF.n6 Slsf 6 at Tryz 221 as Tryz.laysSortF
shelf_lay_g SlLaysE.n43 Slgn 43 at Tryz 223 as Tryz.laysCompact
end Go.Proofs
namespace Go.Proofs.YtcilaocknhphnaaGreat
open Go.RowKit Go.Maps Go.Shelf Go.Lib Go.Sort
theorem zfy {w:World} {g n:Nat} {e:TypeId} {cur:Array Value} (ys:List ByteArray) (hg:w.heap[g]? = some (.cells cur e (0,0))) (hy:ys.length=n) (hc:n<=cur.size) (q:Nat) (os:Array Obj):
  (grow (putRow Value.string (Sort.ahead w q) g 0 ys.toArray) os).heap[g]? = some (.cells ((ys.map Value.string)++cur.toList.drop n).toArray e (0,0))∧Chg (·=g) w (grow (putRow Value.string (Sort.ahead w q) g 0 ys.toArray) os):=by
 have hlt:=zl hg
 have h1:(putRow Value.string (Sort.ahead w q) g 0 ys.toArray).heap[g]? = some (.cells (putCells Value.string 0 ys.toArray cur) e (0,0)):=by
  show (w.heap.modify g (onCells _))[g]? = _;rw [Array.getElem?_modify,if_pos rfl,hg];rfl
 have h2:putCells Value.string 0 ys.toArray cur=((ys.map Value.string)++cur.toList.drop n).toArray:=by
  apply Array.ext
  ·simp [putCells];omega
  ·intro i h3 h4
   simp only [putCells,Array.size_mapIdx] at h3;simp only [putCells,Array.getElem_mapIdx,List.getElem_toArray];by_cases hi:i < n
   ·rw [if_pos ⟨by omega,by simp;omega⟩,List.getElem_append_left (by simp;omega)]
    simp [hy,hi]
   ·rw [if_neg (by simp;omega),List.getElem_append_right (by simp;omega)]
    simp [hy]
    congr 1;omega
 refine ⟨?_,?_⟩
 ·rw [heap_grow_old _ os (by rw [size_putRow];exact hlt),h1,h2]
 ·have hz:=size_putRow Value.string (Sort.ahead w q) g 0 ys.toArray
  refine ⟨rfl,rfl,rfl,by rw [grow,Array.size_append,hz];show w.heap.size<=w.heap.size+os.size;omega,fun k hk hne=>?_⟩;rw [heap_grow_old _ os (by rw [size_putRow];exact hk)];show (w.heap.modify g (onCells _))[k]? = _;rw [Array.getElem?_modify,if_neg (fun e=>hne e.symm)]
structure zfN (w:World) (base g cap:Nat) (l:List ByteArray):Prop where
 row:∃ cs,w.heap[g]? = some (.cells cs 29 (0,0))∧cs.size=cap∧∀ (j:Nat) x,l[j]? = some x->cs[j]? = some (.string x)
 len:l.length<=cap
 max:cap<=maxLen
 base:base<=g
theorem zfN.holds {w:World} {base g cap:Nat} {l:List ByteArray} (h:zfN w base g cap l):Holds Value.string w g 0 l.toArray:=by
 obtain ⟨cs,h1,h2,h3⟩:=h.row;intro j hj;have hj:j < l.length:=by simpa using hj
 refine ⟨?_,zn h1⟩;rw [Nat.zero_add,zg h1 (h3 j _ (zgS hj)),getElem!_pos _ j (by simpa using hj)];simp
theorem zfN.words {w:World} {base g cap n:Nat} {l:List ByteArray} (h:zfN w base g cap l) (hs:∀ x∈l,x.size<=maxLen) (hn:n=l.length) (c:Nat):zB w (.slice (some ⟨g,0,none⟩) n c) (fun k=>k=g) l:=by
 obtain ⟨cs,h1,h2,h3⟩:=h.row;subst hn;exact ⟨_,c,rfl,Nat.le_trans h.len h.max,fun j x hj=>⟨g,0,rfl,rfl,by rw [Nat.zero_add];exact zg h1 (h3 j x hj),hs x (zgU hj)⟩⟩
theorem zfN.put {w:World} {base g cap:Nat} {l:List ByteArray} (h:zfN w base g cap l) (ys:List ByteArray) (hy:ys.length=l.length) (m:List ByteArray) (hm:∀ (j:Nat) x,m[j]? = some x->ys[j]? = some x) (hml:m.length<=ys.length) (q:Nat) (os:Array Obj):
  zfN (grow (putRow Value.string (Sort.ahead w q) g 0 ys.toArray) os) base g cap m∧Chg (·=g) w (grow (putRow Value.string (Sort.ahead w q) g 0 ys.toArray) os):=by
 obtain ⟨cs,h1,h2,h3⟩:=h.row;have hl:=h.len;obtain ⟨r1,r2⟩:=zfy ys h1 rfl (by omega) q os;refine ⟨⟨⟨_,r1,by simp;omega,fun j x hj=>?_⟩,by omega,h.max,h.base⟩,r2⟩;have hx:=hm j x hj;have hjl:=(zgT.1 hx).1;rw [zgN,List.getElem?_append_left (by simpa using hjl),zg3,hx];rfl
abbrev zen:=ByteArray × ByteArray
def zgC (r:zen):Rul:=(r.1.data.toList,r.2.data.toList)
def ZB (w:World) (v:Value) (G:Nat->Prop) (R:List zen):Prop:=
 ∃ la cap,v=.slice la R.length cap∧R.length<=maxLen∧∀ (j:Nat) r,R[j]? = some r->∃ lb lo,la=some ⟨lb,lo,none⟩∧G lb∧w.cell? ⟨lb,lo+j*2,none⟩=some (.string r.1)∧w.cell? ⟨lb,lo+j*2+1,none⟩=some (.string r.2)∧r.1.size<=maxLen∧r.2.size<=maxLen
theorem ZB.chg {S:Nat->Prop} {w w':World} {v:Value} {G:Nat->Prop} {R:List zen} (h:ZB w v G R) (hc:Chg S w w') (hs:∀ k,G k->¬ S k):ZB w' v G R:=by
 obtain ⟨la,cap,h1,h2,h3⟩:=h;exact ⟨la,cap,h1,h2,fun j r hj=>by obtain ⟨lb,lo,q1,q2,q3,q4,q5⟩:=h3 j r hj;exact ⟨lb,lo,q1,q2,zi hc (hs lb q2) q3,zi hc (hs lb q2) q4,q5⟩⟩
def zfo:ByteArray:=⟨#[]⟩
theorem YL (z:Value) (n:Nat):madeCells #[z] n=(Yx n z).toArray:=by
 unfold madeCells Yx;apply Array.ext
 ·simp
 ·intro i h1 h2;simp [Nat.mod_one]
theorem Tryz.makeWords (w:World) (n:Nat) (hn:n<=1000):(Instr.makeSlice 31 (.int .i64 n) (.int .i64 n)).run Tryz.prog w=.ok (.slice (some ⟨w.heap.size,0,none⟩) n n) (w.alloc (.cells (Yx n (.string zfo)).toArray 29)):=by
 obtain ⟨i,hi,hz0,hz1,hz2⟩:=info_parts (show (Tryz.prog.info? 29).map (fun i=>(i.zero,i.size,i.bytes))=some (some (.string zfo),1,16) by kernel_rfl);have:=run_make (P:=Tryz.prog) w 31 29 i _ Tryz.underlying31 hi hz0 .i64 .i64 n n (by omega) (by omega) (by rw [hz2];omega) (by omega);rw [this,hz1];simp only [Int.toNat_natCast,Value.cells,Nat.mul_one];rw [YL]
theorem Zy.base {w:World} {base base' L:Nat} {mv:Value} {f:Nat->Option Nat} (h:Zy w base L mv f) (hb:base'<=base):Zy w base' L mv f:=by
 rcases h with h | ⟨bm,n,D,rfl,h1,r⟩
 ·exact .inl h
 ·exact .inr ⟨bm,n,D,rfl,by omega,r⟩
def zgc (R:List Rul) (w:Wd) (x:Int × Int):Prop:=0<=x.2∧x.2 < R.length∧Ys (yi R x.2.toNat)=true∧0<=x.1∧x.1+zG (yi R x.2.toNat).1<=zG w∧(w.drop (2*x.1.toNat)).take (yi R x.2.toNat).1.length=(yi R x.2.toNat).1
instance (R:List Rul) (w:Wd) (x:Int × Int):Decidable (zgc R w x):=by unfold zgc;infer_instance
theorem Tryz.wordKeyed:Keyed Tryz.prog 29:=string_keyed Tryz.underlying29
theorem Tryz.elemOrigin:zP Tryz.prog 532 3 24:=zK (z:=.agg #[.int .i64 0,.int .i64 0,.int .i64 0]) (by kernel_rfl) rfl (by decide)
theorem Tryz.sizeOrigins:(Tryz.prog.info? 520).map (·.size)=some 1:=by kernel_rfl
def bar (l:Wd):ByteArray:=⟨l.toArray⟩
def YX (r:List Ent):List Value:=r.map fun e=>.string (bar e.1)
def zfA (r:List Ent):List Value:=r.flatMap fun e=>[.int .i64 e.2.1,.int .i64 (e.2.2.1:Int),.int .i64 (e.2.2.2:Int)]
open Classical in
noncomputable def zfW (r:List Ent):Lit->Option (DataW Unit):=fun kl=>if h:∃ v,v∈Zb r∧kl=.string v then some (.lit (.int .i64 (((Zb r).idxOf (Classical.choose h):Nat):Int))) else none
structure RB where
 b:Nat
 wv:Value
 fv:Value
 bm:Nat
structure zbG (w:World) (base:Nat) (X:RB) (n1:Nat) (xs:List Value) (n2:Nat) (ys:List Value) (n3:Nat) (f:Lit->Option (DataW Unit)):Prop where
 hb:w.heap[X.b]? = some (.cells #[X.wv,X.fv,.map (some X.bm)] 523 (0,0))
 hw:w.ownsRow base 29 1 X.wv n1 xs
 hf:w.ownsRow base 532 3 X.fv n2 ys
 hm:ZC Tryz.prog 29 3 w X.bm n3 f
 bb:base<=X.b
 bm:base<=X.bm
 nwf:zcj X.wv X.fv
 nwb:X.wv.ownBlock≠some X.b
 nfb:X.fv.ownBlock≠some X.b
def zgk (w:World) (base:Nat) (X:RB) (r:List Ent):Prop:=zbG w base X r.length (YX r) r.length (zfA r) r.length (zfW r)
def RB.own (X:RB) (k:Nat):Prop:=k=X.b∨k=X.bm∨X.wv.ownBlock=some k∨X.fv.ownBlock=some k
section
variable {w w':World} {base:Nat} {X:RB} {n1 n2 n3:Nat} {xs ys:List Value} {f:Lit->Option (DataW Unit)}
theorem yY {P:Program} {k e:TypeId} {b n:Nat} {t:TypeId} {size m:Nat} {v:Value} {zs:List Value} (h:w.ownsRow base t size v m zs) (hm:ZC P k e w b n f):v.ownBlock≠some b:=by
 intro e;obtain ⟨D,⟨es,clock,hh,_⟩,_⟩:=hm;obtain ⟨_,⟨rfl,_⟩ | ⟨g,cap,cur,rfl,_,hg,_⟩⟩:=h
 ·cases e
 ·cases e
  rw [hh] at hg;cases hg
theorem yT {P:Program} {k e:TypeId} {b n g:Nat} {cs:Array Value} {t:TypeId} {fz:Nat × Nat} (h:w.heap[g]? = some (.cells cs t fz)) (hm:ZC P k e w b n f):g≠b:=by
 rintro rfl;obtain ⟨D,⟨es,clock,hh,_⟩,_⟩:=hm;rw [hh] at h;cases h
theorem zbG.chg {S:Nat->Prop} (h:zbG w base X n1 xs n2 ys n3 f) (hc:Chg S w w') (hs:∀ k,X.own k->¬ S k):zbG w' base X n1 xs n2 ys n3 f:=
 ⟨hc.obj (hs _ (.inl rfl)) h.hb,zo h.hw hc (fun k hk=>hs k (.inr (.inr (.inl hk)))),zo h.hf hc (fun k hk=>hs k (.inr (.inr (.inr hk)))),h.hm.chg hc (hs _ (.inr (.inl rfl))),h.bb,h.bm,h.nwf,h.nwb,h.nfb⟩
theorem zbG.own_lt (h:zbG w base X n1 xs n2 ys n3 f) {k:Nat} (hk:X.own k):base<=k∧k < w.heap.size:=by
 rcases hk with rfl | rfl | hk | hk
 ·exact ⟨h.bb,zl h.hb⟩
 ·exact ⟨h.bm,h.hm.lt⟩
 ·exact h.hw.lt k hk
 ·exact h.hf.lt k hk
theorem zbG.stepM {n:Nat} {g:Lit->Option (DataW Unit)} (h:zbG w base X n1 xs n2 ys n3 f) (hm:ZC Tryz.prog 29 3 w' X.bm n g) (hc:Chg (·=X.bm) w w'):zbG w' base X n1 xs n2 ys n g:=
 ⟨hc.obj (yT h.hb h.hm) h.hb,zo h.hw hc (fun k hk e=>yY h.hw h.hm (by rw [<- e];exact hk)),zo h.hf hc (fun k hk e=>yY h.hf h.hm (by rw [<- e];exact hk)),hm,h.bb,h.bm,h.nwf,h.nwb,h.nfb⟩
theorem zbG.stepW {v:Value} {n:Nat} {zs:List Value} (h:zbG w base X n1 xs n2 ys n3 f) (ho:w'.ownsRow base 29 1 v n zs) (hg:w.grownBy w' X.wv.ownBlock) (hs:Zd w X.wv v):
  zbG (w'.setCell ⟨X.b,0,none⟩ v) base ⟨X.b,v,X.fv,X.bm⟩ n zs n2 ys n3 f:=by
 have hbl:=zl h.hb
 have nv:v.ownBlock≠some X.b:=fun e=>by
  rcases hs with q | q
  ·rw [q] at e;exact h.nwb e
  ·have:=q _ e;omega
 have c1:=Chg.of_grown hg;have c2:=zy w' X.b 0 v;refine ⟨(zk (c1.obj h.nwb h.hb) v).trans rfl,zo ho c2 (fun k hk e=>nv (by rw [<- e];exact hk)),zo (zct h.hf hg h.nwf) c2 (fun k hk e=>h.nfb (by rw [<- e];exact hk)),(h.hm.chg c1 (yY h.hw h.hm)).chg c2 (fun e=>yT h.hb h.hm e.symm),h.bb,h.bm,Xn h.nwf hs h.hf,nv,h.nfb⟩
theorem zbG.stepF {v:Value} {n:Nat} {zs:List Value} (h:zbG w base X n1 xs n2 ys n3 f) (ho:w'.ownsRow base 532 3 v n zs) (hg:w.grownBy w' X.fv.ownBlock) (hs:Zd w X.fv v):
  zbG (w'.setCell ⟨X.b,1,none⟩ v) base ⟨X.b,X.wv,v,X.bm⟩ n1 xs n zs n3 f:=by
 have hbl:=zl h.hb
 have nv:v.ownBlock≠some X.b:=fun e=>by
  rcases hs with q | q
  ·rw [q] at e;exact h.nfb e
  ·have:=q _ e;omega
 have c1:=Chg.of_grown hg;have c2:=zy w' X.b 1 v;refine ⟨(zk (c1.obj h.nfb h.hb) v).trans rfl,zo (zct h.hw hg h.nwf.symm) c2 (fun k hk e=>h.nwb (by rw [<- e];exact hk)),zo ho c2 (fun k hk e=>nv (by rw [<- e];exact hk)),(h.hm.chg c1 (yY h.hf h.hm)).chg c2 (fun e=>yT h.hb h.hm e.symm),h.bb,h.bm,(Xn h.nwf.symm hs h.hw).symm,h.nwb,nv⟩
end
theorem Xs (r:List Ent) (e:Ent):YX (r++[e])=YX r++[.string (bar e.1)]:=by unfold YX;rw [List.map_append];rfl
theorem zbG.rowOwn {w:World} {base:Nat} {X:RB} {n1 n2 n3:Nat} {xs ys:List Value} {f:Lit->Option (DataW Unit)} (h:zbG w base X n1 xs n2 ys n3 f) {k:Nat}:X.own k↔(k=X.b∨∃ o v,w.cell? ⟨X.b,o,none⟩=some v∧zD v=some k):=by
 constructor
 ·rintro (rfl | rfl | hk | hk)
  ·exact .inl rfl
  ·exact .inr ⟨2,.map (some X.bm),zg h.hb rfl,rfl⟩
  ·exact .inr ⟨0,X.wv,zg h.hb rfl,ZP hk⟩
  ·exact .inr ⟨1,X.fv,zg h.hb rfl,ZP hk⟩
 ·rintro (rfl | ⟨o,v,hc,hv⟩)
  ·exact .inl rfl
  ·have e:w.cell? ⟨X.b,o,none⟩=#[X.wv,X.fv,.map (some X.bm)][o]?:=by simp [World.cell?,h.hb]
   rw [e] at hc;obtain ⟨aw,cw,ew⟩:=zq h.hw;obtain ⟨af,cf,ef⟩:=zq h.hf;rcases o with _ | _ | _ | o
   ·simp at hc;subst hc;rw [ew] at hv;exact .inr (.inr (.inl (by rw [ew];cases aw <;> simp_all [zD,Value.ownBlock])))
   ·simp at hc;subst hc;rw [ef] at hv;exact .inr (.inr (.inr (by rw [ef];cases af <;> simp_all [zD,Value.ownBlock])))
   ·simp at hc;subst hc;exact .inr (.inl (by simp [zD] at hv;exact hv.symm))
   ·simp at hc
attribute [local go_sem] Oper.semAt_some

def rowOwn (b:Nat) (W:World) (k:Nat):Prop:=k=b∨∃ o v,W.cell? ⟨b,o,none⟩=some v∧zD v=some k
structure KpR (b:Nat) (W W':World):Prop where
 size:W.heap.size<=W'.heap.size
 cells:∀ k cs t fz,W.heap[k]? = some (.cells cs t fz)->¬ rowOwn b W k->W'.heap[k]? = some (.cells cs t fz)
 own:∀ k,rowOwn b W' k->rowOwn b W k∨W.heap.size<=k
theorem KpR.trans {b:Nat} {A B C:World} (h:KpR b A B) (k:KpR b B C):KpR b A C:=by
 refine ⟨Nat.le_trans h.size k.size,fun i cs t fz hi hn=>?_,fun i hi=>?_⟩
 ·refine k.cells i cs t fz (h.cells i cs t fz hi hn) (fun e=>?_)
  rcases h.own i e with q | q
  ·exact hn q
  ·have:=zl hi;omega
 ·rcases k.own i hi with q | q
  ·exact h.own i q
  ·exact .inr (Nat.le_trans h.size q)
theorem KpR.cell {b g o:Nat} {W W':World} {v:Value} (h:KpR b W W') (hn:¬ rowOwn b W g) (hc:W.cell? ⟨g,o,none⟩=some v):W'.cell? ⟨g,o,none⟩=some v:=by
 have hlt:=World.block_lt_of_cell? W _ hc;obtain ⟨ob,ho⟩:∃ ob,W.heap[g]? = some ob:=⟨_,Array.getElem?_eq_getElem hlt⟩;cases ob with
 | cells cs t fz=>
  rw [<- hc];exact World.cell?_of_block (w:=W) ((h.cells g cs t fz ho hn).trans ho.symm)
 | _=>simp [World.cell?,ho] at hc
theorem Chg.grownNone {W W':World} (h:Chg (fun _=>False) W W'):W.grownBy W' none:=⟨h.os,h.tape,h.output,h.size,fun k hk _=>h.block k hk (fun e=>e)⟩
theorem zeS {a:ByteArray} (h:ZO a.data.toList=true):a.size<=16∧a.size % 2=0:=by
 obtain ⟨h1,_,h3,_⟩:=(Zn _).1 h;unfold zG at h3;rw [zt] at h1 h3;omega
attribute [local go_sem] Oper.semAt_some

theorem ZJ {w:World} {base:Nat} {e:TypeId} {size n:Nat} {xs:List Value} {v:Value} (h:w.ownsRow base e size v n xs) {k:Nat} (hk:v.ownBlock=some k):∃ cs,w.heap[k]? = some (.cells cs e (0,0)):=by
 obtain ⟨_,⟨rfl,_⟩ | ⟨g,cap,cur,rfl,_,hg,_⟩⟩:=h
 ·cases hk
 ·cases hk;exact ⟨cur,hg⟩
attribute [local go_sem] Oper.semAt_some

theorem zM.chgS {S:Nat->Prop} {w w':World} {base:Nat} {B:MB} {cs:List (Value × Value)} {ps:List (List Nat)} {wh:List Nat->List Nat} (h:zM w base B cs ps wh) (hc:Chg S w w') (hs:∀ k,base<=k->k < w.heap.size->¬ S k):zM w' base B cs ps wh:=by
 refine ⟨hc.obj (hs _ h.bb (zl h.hb)) h.hb,zo h.hg hc (fun k hk=>hs k (h.hg.lt k hk).1 (h.hg.lt k hk).2),h.len,fun k p c hp hcc=>?_,fun k p c hp hcc=>zo (h.ew k p c hp hcc) hc (fun x hx=>hs x ((h.ew k p c hp hcc).lt x hx).1 ((h.ew k p c hp hcc).lt x hx).2),h.ap,h.ag,h.bg,h.bb⟩;exact (h.em k p c hp hcc).chg hc (fun x hx=>hs x (h.blt (Zz hcc) (ZQ hx)).1 (h.blt (Zz hcc) (ZQ hx)).2)
theorem YZ {bnd i:Nat} {l m:List ((Nat × Nat) × Wd)} {r:List Ent} (h:l <+: m) (hn:ZS bnd i l r=none):ZS bnd i m r=none:=by
 obtain ⟨t,rfl⟩:=h;rw [yx,hn];rfl
theorem xn {w:World} {base base':Nat} {e:TypeId} {size n:Nat} {xs:List Value} {v:Value} (h:w.ownsRow base e size v n xs) (hb:base'<=base):w.ownsRow base' e size v n xs:=by
 obtain ⟨h1,h2 | ⟨g,cap,cur,h3,hg,q⟩⟩:=h
 ·exact ⟨h1,.inl h2⟩
 ·exact ⟨h1,.inr ⟨g,cap,cur,h3,Nat.le_trans hb hg,q⟩⟩
theorem zgk.down {w:World} {base base':Nat} {X:RB} {r:List Ent} (h:zgk w base X r) (hb:base'<=base):zgk w base' X r:=
 ⟨h.hb,xn h.hw hb,xn h.hf hb,h.hm,Nat.le_trans hb h.bb,Nat.le_trans hb h.bm,h.nwf,h.nwb,h.nfb⟩
attribute [local go_sem] Oper.semAt_some

def zgx (lo:Nat) (W:World) (ds:List Deferred):Prop:=
 ∃ Ds:List Nat,ds=Ds.map (fun D=>{ target:=.collected D,args:=#[] })∧Ds.Nodup∧∀ D∈Ds,lo<=D∧W.heap[D]? = some (.deferred (some []))
structure zgE (w w3:World) (X3:RB) (R:List zen) (s:ByteArray) (bnd bi:Nat) (r:List Ent) (X:RB) (ds:List Deferred) (W:World):Prop where
 row:zgk W w.heap.size X r
 xb:X.b=X3.b
 xm:X.bm=X3.bm
 goes:zeE (R.map zgC) s.data.toList bnd=Xa (R.map zgC) bnd (bnd - ds.length) ds.length r
 le:ds.length<=bnd
 len:r.length<=bnd
 may:∀ u∈Zb r,ZO u=true
 box:W.heap[bi]? = some (.cells #[.int .i64 (ds.length:Int)] 3 (0,0))
 hbi:w3.heap.size<=bi
 nbi:¬ X.own bi
 own:∀ k,X.own k->X3.own k∨w3.heap.size<=k
 chg:Chg X3.own w3 W
 marks:zgx w3.heap.size W ds
theorem ZB.imp {w:World} {v:Value} {G G':Nat->Prop} {R:List zen} (h:ZB w v G R) (hg:∀ k,G k->G' k):ZB w v G' R:=by
 obtain ⟨la,cap,h1,h2,h3⟩:=h;exact ⟨la,cap,h1,h2,fun j r hj=>by obtain ⟨lb,lo,q1,q2,q3⟩:=h3 j r hj;exact ⟨lb,lo,q1,hg _ q2,q3⟩⟩
theorem zeD {w w1:World} {v:Value} {R:List zen} (h:ZB w v (· < w.heap.size) R) (k:Chg (fun _=>False) w w1):ZB w1 v (· < w1.heap.size) R:=by
 obtain ⟨la,cap,q1,q2,q3⟩:=h;exact ⟨la,cap,q1,q2,fun j r hj=>by obtain ⟨lb,lo,z1,z2,z3,z4,z5⟩:=q3 j r hj;exact ⟨lb,lo,z1,zgZ z2 k.size,zi k (fun e=>e) z3,zi k (fun e=>e) z4,z5⟩⟩
attribute [local go_sem] Oper.semAt_some

structure zgz (w:World) (v:Value) (R:List zen) (s:ByteArray):Prop where
 rules:ZB w v (· < w.heap.size) R
 few:(R.length<=400∧∀ r∈R,r.1.size<=400)∨400 < R.length
 word:s.size<=maxLen
theorem zgz.chg {w w1:World} {v:Value} {R:List zen} {s:ByteArray} (h:zgz w v R s) (k:Chg (fun _=>False) w w1):zgz w1 v R s:=⟨zeD h.rules k,h.few,h.word⟩
theorem Tryz.elemStep:zP Tryz.prog 502 2 16:=zK (z:=.agg #[.int .i64 0,.int .i64 0]) (by kernel_rfl) rfl (by decide)
def Yw (w:World) (v:Value) (G:Nat->Prop) (L:List (Int × Int)):Prop:=
 ∃ la cap,v=.slice la L.length cap∧L.length<=maxLen∧∀ (j:Nat) x,L[j]? = some x->∃ lb lo,la=some ⟨lb,lo,none⟩∧G lb∧w.cell? ⟨lb,lo+j*2,none⟩=some (.int .i64 x.1)∧w.cell? ⟨lb,lo+j*2+1,none⟩=some (.int .i64 x.2)
theorem Yw.chg {S:Nat->Prop} {w w':World} {v:Value} {G:Nat->Prop} {L:List (Int × Int)} (h:Yw w v G L) (hc:Chg S w w') (hs:∀ k,G k->¬ S k):Yw w' v G L:=by
 obtain ⟨la,cap,h1,h2,h3⟩:=h;exact ⟨la,cap,h1,h2,fun j r hj=>by obtain ⟨lb,lo,q1,q2,q3,q4⟩:=h3 j r hj;exact ⟨lb,lo,q1,q2,zi hc (hs lb q2) q3,zi hc (hs lb q2) q4⟩⟩
def zgb (s:ByteArray) (a:Int) (n:Nat):Prop:=0<=a∧a+n<=zG s.data.toList
instance (s:ByteArray) (a:Int) (n:Nat):Decidable (zgb s a n):=by unfold zgb;infer_instance
def zcz (l:List Wd) (w:Wd) (a i:Nat):List Nat:=(List.range i).filter fun t=>yI (l.getD t []) w a
def YB (R:List Rul) (u:Wd) (a k:Nat):List ((Nat × Nat) × Wd):=(yP (Xz R) u a++(zcz (Xz R) u a k).map fun t=>(a,t)).map fun h=>(h,zfv R u h)
def zcp (R:List Rul) (b i:Nat) (r:List Ent) (u:Wd) (a k:Nat):Option (List Ent):=ZS b i (YB R u a k) r
def xY (r:List Ent):List Value:=r.map fun e=>.int .i64 e.2.1
def xW (r:List Ent):List Value:=zbl (r.map fun e=>e.2.2)
structure zdm (w:World) (base b:Nat) (lv fv bv:Value) (r1 r2 r3:List Ent):Prop where
 hb:w.heap[b]? = some (.cells #[lv,fv,bv] 504 (0,0))
 hl:w.ownsRow base 29 1 lv r1.length (YX r1)
 hf:w.ownsRow base 3 1 fv r2.length (xY r2)
 hs:w.ownsRow base 502 2 bv r3.length (xW r3)
 bb:base<=b
theorem yp {w:World} {base:Nat} {e t:TypeId} {size n k:Nat} {xs:List Value} {v:Value} {cs:Array Value} {fz:Nat × Nat} (h:w.ownsRow base e size v n xs) (hk:v.ownBlock=some k) (ho:w.heap[k]? = some (.cells cs t fz)):t=e:=by
 obtain ⟨cs',h'⟩:=ZJ h hk;rw [ho] at h';cases h';rfl
def zgD (w:World) (base b:Nat) (r:List Ent):Prop:=∃ lv fv bv,zdm w base b lv fv bv r r r
structure zfs (w:World) (R:List Rul) (s:Wd) (bnd b i:Nat) (r:List Ent) (W:World):Prop where
 row:zgD W w.heap.size b r
 goes:zeE R s bnd=Xa R bnd (bnd - i) i r
 le:i<=bnd
 len:r.length<=bnd
 nd:(Zb r).Nodup
 may:∀ u∈Zb r,ZO u=true
 chg:Chg (fun _=>False) w W
structure FIn (w:World) (R:List Rul) (bnd b i:Nat) (r0:List Ent) (a k:Nat) (r:List Ent) (W:World):Prop where
 row:zgD W w.heap.size b r
 pre:zcp R bnd i r0 (Zt r0 i) a k=some r
 chg:Chg (fun _=>False) w W
theorem Tryz.sizeSteps:(Tryz.prog.info? 459).map (·.size)=some 1:=by kernel_rfl
open Go.ChangeShapes Go.WideShapes Go.ChangeAt
structure zgj (w:World) (v:Value) (R:List zen):Prop where
 at_:ZB w v (· < w.heap.size) R
 nil:∀ n c,v=.slice none n c->n=0∧c=0
structure zgi (w:World) (v:Value) (L:List (Int × Int)):Prop where
 at_:Yw w v (· < w.heap.size) L
 fit:∀ x∈L,-9223372036854775808<=x.1∧x.1<=9223372036854775807
theorem zer {P:Program} {W:World} {H:Type} {enc:TypeId × Value->H} {t:TypeId} {f0 f1:Field} {fuel:Nat} {cs:List Value} {x:DataW H × List MemPlace} {base:Nat} {spare:Nat->Bool} {held:Bool} (ht:P.underlying t=some (.struct #[f0,f1])) (h:DataW.trod enc P W base spare held fuel t cs=some x):
  ∃ y0 y1 n,x.1=.agg [y0.1,y1.1]∧cs.length=P.cellsOf t∧DataW.trod enc P W base spare held n f0.type ((cs.drop f0.offset).take (P.cellsOf f0.type))=some y0∧DataW.trod enc P W base spare held n f1.type ((cs.drop f1.offset).take (P.cellsOf f1.type))=some y1:=by
 obtain ⟨xs,n,_,rfl,hl,hlen,hf⟩:=DataW.trod_struct ht h
 match xs,hlen with
 | [y0,y1],_=>exact ⟨y0,y1,n,rfl,hl,by simpa using hf 0 f0 rfl,by simpa using hf 1 f1 rfl⟩
theorem Tryz.cellsInt:Tryz.prog.cellsOf 3=1:=by kernel_rfl
theorem Tryz.cellsWord:Tryz.prog.cellsOf 29=1:=by kernel_rfl
theorem Tryz.cellsRule:Tryz.prog.cellsOf 85=2:=by kernel_rfl
theorem Tryz.cellsStep:Tryz.prog.cellsOf 502=2:=by kernel_rfl
theorem Tryz.bytesRule:Tryz.prog.bytesOf 85=32:=by kernel_rfl
theorem zB.imp {w:World} {v:Value} {G G':Nat->Prop} {l:List ByteArray} (h:zB w v G l) (hg:∀ k,G k->G' k):zB w v G' l:=by
 obtain ⟨la,cap,h1,h2,h3⟩:=h;exact ⟨la,cap,h1,h2,fun j r hj=>by obtain ⟨lb,lo,q1,q2,q3⟩:=h3 j r hj;exact ⟨lb,lo,q1,hg _ q2,q3⟩⟩
theorem Tryz.elemRule:zP Tryz.prog 85 2 32:=zK (z:=.agg #[.string ⟨#[]⟩,.string ⟨#[]⟩]) (by kernel_rfl) rfl (by decide)
structure zem (w:World) (sv:Value) (G:Nat->Prop) (c:zfQ):Prop where
 set:ZV w sv G c.fr
 sp:c.sp.size<=maxLen
 sg:c.sg < 65536
theorem zem.chg {S:Nat->Prop} {w w':World} {sv:Value} {G:Nat->Prop} {c:zfQ} (h:zem w sv G c) (hc:Chg S w w') (hs:∀ k,G k->¬ S k):zem w' sv G c:=⟨h.set.chg hc hs,h.sp,h.sg⟩
theorem Tryz.sizeCert:(Tryz.prog.info? 103).map (·.size)=some 7:=by kernel_rfl
end Go.Proofs.YtcilaocknhphnaaGreat

namespace Go.Proofs.YtcilaocknhphnaaGreat
open Go.RowKit Go.Maps
def zeh (l:List ByteArray):Prop:=∀ x∈l,x.size<=140737488355328
theorem zbe {w:World} {e:TypeId} {z:Value} {size n m gc:Nat} {xs news:List Value} (hz:z.cells.size=size) (hlx:xs.length=n*size) (hln:news.length=m*size) (hge:n+m<=gc) (hcm:gc<=maxLen):
  (w.drew.alloc (.cells (xs.toArray++news.toArray++Builtin.zeroCells z.cells (gc - (n+m))) e)).ownsRow w.heap.size e size (.slice (some ⟨w.heap.size,0,none⟩) (n+m) gc) (n+m) (xs++news):=by
 refine ⟨by rw [zgV,hlx,hln,Nat.add_mul],.inr ⟨w.heap.size,gc,_,rfl,zhb _,heap_alloc_new w.drew _,hge,hcm,?_,?_⟩⟩
 ·simp only [Array.size_append,List.size_toArray,size_zeroCells,hz,hlx,hln,<- Nat.add_mul]
  congr 1;omega
 ·simp only [Array.toList_append]
  rw [List.take_left' (by rw [zgV,hlx,hln,Nat.add_mul])]
theorem za2 {P:Program} {w:World} {ops:Array Oper} {rest:List Oper} {o:Oper} {a:Act} {Q:Exit->Act->World->Prop} (hgd:o.guard=none) (s x:Operand) (t:TypeId)
  (ho:o.op=.call { callee:=.builtin .append,args:=#[s,x],argTypes:=#[t,t] }) (e:TypeId) (size bytes:Nat) (ht:P.underlying t=some (.slice e)) (hE:zP P e size bytes)
  (sa:Option Addr) (n:Nat) (xs:List Value) (hs:a.eval s=.slice sa n n) (hlx:xs.length=n*size) (hcx:∀ (j:Nat) u,xs[j]? = some u->∃ g o,sa=some ⟨g,o,none⟩∧w.cell? ⟨g,o+j,none⟩=some u) (hnil:sa=none->n=0)
  (g go m c:Nat) (news:List Value) (hx:a.eval x=.slice (some ⟨g,go,none⟩) m c) (hl:news.length=m*size) (hcn:∀ (j:Nat) u,news[j]? = some u->w.cell? ⟨g,go+j,none⟩=some u) (hm:0 < m)
  (h1:∀ u∈xs++news,u.oneCell'=true) (hbytes:(n+m)*bytes<=140737488355328) (h63:n+m<=maxLen)
  (h:∀ v' w',w'.ownsRow w.heap.size e size v' (n+m) (xs++news)->Chg (fun _=>False) w w'->w.heap.size < w'.heap.size->wpList P ops Q rest (a.put o.dst v') w'):wpList P ops Q (o :: rest) a w:=by
 obtain ⟨i,z,hi,hz,q1,q2,q3,q4⟩:=hE;refine wpList_plain hgd fun K hK=>?_;have hnews:∀ j u,news[j]? = some u->w.cell? ((⟨g,go,none⟩:Addr).add j)=some u:=fun j u hj=>by rw [ZG];exact hcn j u hj
 suffices hr:∃ v' w',(Builtin.append_ #[t,t] o.type #[.slice sa n n,.slice (some ⟨g,go,none⟩) m c]).run P w=.ok v' w'∧w'.ownsRow w.heap.size e size v' (n+m) (xs++news)∧Chg (fun _=>False) w w'∧w.heap.size < w'.heap.size by
  obtain ⟨v',w',hr,h2,h3,h4⟩:=hr;unfold Oper.wp execOp;simp only [ho,resolve,invoke,builtin,Sem.run_bind,Sem.run_pure,Result.andThen_ok,List.map_toArray,List.map_cons,List.map_nil,hs,hx,hr];exact hK _ _ (h v' w' h2 h3 h4)
 have hge:=grownCap_ge w (n+m) n e;have hcm:=grownCap_le_maxLen w (n+m) n e h63;have hchg:∀ cs,Chg (fun _=>False) w (w.drew.alloc (.cells cs e)):=fun cs=>((Chg.refl _ w).drew).alloc _;cases sa with
 | none=>
  obtain rfl:=hnil rfl;obtain rfl:xs=[]:=List.eq_nil_of_length_eq_zero (by simpa using hlx);simp only [Nat.zero_add] at hge hcm h63 hbytes ⊢;have hr:=run_append_nil (P:=P) w t o.type e i z ht hi hz ⟨g,go,none⟩ m c news (by rw [q1];exact hl) hnews hm (by simp only [maxLen] at h63;omega) (by rw [q2];omega);refine ⟨_,_,hr,?_,hchg _,by simp⟩;have:=zbe (w:=w) (e:=e) (z:=z) (size:=size) (n:=0) (m:=m) (gc:=grownCap w m 0 e) (xs:=[]) (news:=news) q3 (by simp) hl (by simpa using hge) (by simpa using hcm)
  simpa using this
 | some ad=>
  have holds:∀ j u,xs[j]? = some u->w.cell? (ad.add j)=some u:=fun j u hj=>by
   obtain ⟨g',o',e1,c1⟩:=hcx j u hj;cases e1;rw [ZG];exact c1
  have hr:=run_append_grow (P:=P) w t o.type e i z ht hi hz ad n n xs (by rw [q1];exact hlx) holds ⟨g,go,none⟩ m c news (by rw [q1];exact hl) hnews (by omega) (by simp only [maxLen] at h63;omega) (growslice_fits (by omega) (by rw [q2];exact hbytes));exact ⟨_,_,hr,zbe q3 hlx hl hge hcm,hchg _,by simp⟩
def zH (E:List (Int × Value)):List Value:=E.flatMap fun e=>[.int .i64 e.1,e.2]
theorem yA (E F:List (Int × Value)):zH (E++F)=zH E++zH F:=by unfold zH;rw [List.flatMap_append]
theorem Zi (E:List (Int × Value)):(zH E).length=E.length*2:=by
 unfold zH;induction E with
 | nil=>rfl
 | cons a t ih=>rw [List.flatMap_cons,zgV,ih];simp;omega
theorem xi:∀ (E:List (Int × Value)) (k:Nat) r,E[k]? = some r->(zH E)[k*2]? = some (.int .i64 r.1)∧(zH E)[k*2+1]? = some r.2
 | [],k,r,h=>by simp at h
 | a :: t,0,r,h=>by
  simp at h;subst h;unfold zH;rw [List.flatMap_cons];exact ⟨rfl,rfl⟩
 | a :: t,k+1,r,h=>by
  obtain ⟨h1,h2⟩:=xi t k r (by simpa using h);have e:zH (a :: t)=[.int .i64 a.1,a.2]++zH t:=by unfold zH;rw [List.flatMap_cons]
  rw [e];refine ⟨?_,?_⟩
  ·rw [List.getElem?_append_right (by simp;omega)];simpa [show (k+1)*2 - 2=k*2 by omega] using h1
  ·rw [List.getElem?_append_right (by simp;omega)];simpa [show (k+1)*2+1 - 2=k*2+1 by omega] using h2
theorem zd6 {E:List (Int × Value)} {j:Nat} {u:Value} (h:(zH E)[j]? = some u):∃ k r,E[k]? = some r∧(j=k*2∧u=.int .i64 r.1∨j=k*2+1∧u=r.2):=by
 have hl:=(zgT.1 h).1;rw [Zi] at hl;have hk:j / 2 < E.length:=by omega
 refine ⟨j / 2,E[j / 2],zgS hk,?_⟩;obtain ⟨h1,h2⟩:=xi E (j / 2) _ (zgS hk);rcases Nat.mod_two_eq_zero_or_one j with q | q
 ·rw [show j / 2*2=j by omega,h] at h1
  exact .inl ⟨by omega,Option.some.inj h1⟩
 ·rw [show j / 2*2+1=j by omega,h] at h2
  exact .inr ⟨by omega,Option.some.inj h2⟩
theorem Yd {E:List (Int × Value)} (h:∀ e∈E,e.2.oneCell'=true):∀ v∈zH E,v.oneCell'=true:=by
 intro v hv;unfold zH at hv;rw [List.mem_flatMap] at hv;obtain ⟨r,hr,h2⟩:=hv;simp at h2;rcases h2 with rfl | rfl
 ·rfl
 ·exact h r hr
abbrev zO:=Int × List ByteArray
structure zaY (w:World) (G:Nat->Prop) (E:List (Int × Value)) (L:List zO):Prop where
 len:E.length=L.length
 ent:∀ (j:Nat) e x,E[j]? = some e->L[j]? = some x->e.1=x.1∧ZV w e.2 G x.2
theorem zaY.one {w:World} {G:Nat->Prop} {E:List (Int × Value)} {L:List zO} (h:zaY w G E L):∀ e∈E,e.2.oneCell'=true:=by
 intro e he;obtain ⟨j,hj⟩:=List.mem_iff_getElem?.1 he;have hl:=(zgT.1 hj).1;obtain ⟨_,q⟩:=h.ent j e _ hj (zgS (by rw [<- h.len];exact hl));obtain ⟨a,c,e2⟩:=q.shape;rw [e2];rfl
theorem zaY.chg {S:Nat->Prop} {w w':World} {G:Nat->Prop} {E:List (Int × Value)} {L:List zO} (h:zaY w G E L) (hc:Chg S w w') (hs:∀ k,G k->¬ S k):zaY w' G E L:=
 ⟨h.len,fun j e x h1 h2=>⟨(h.ent j e x h1 h2).1,(h.ent j e x h1 h2).2.chg hc hs⟩⟩
theorem zaY.up {w:World} {G G':Nat->Prop} {E:List (Int × Value)} {L:List zO} (h:zaY w G E L) (hg:∀ k,G k->G' k):zaY w G' E L:=
 ⟨h.len,fun j e x h1 h2=>⟨(h.ent j e x h1 h2).1,(h.ent j e x h1 h2).2.up hg⟩⟩
theorem zaY.snoc {w:World} {G:Nat->Prop} {E:List (Int × Value)} {L:List zO} (h:zaY w G E L) {e:Int × Value} {x:zO} (h1:e.1=x.1) (h2:ZV w e.2 G x.2):zaY w G (E++[e]) (L++[x]):=by
 refine ⟨by simp [h.len],fun j e' x' q1 q2=>?_⟩;rcases Nat.lt_or_ge j E.length with q | q
 ·rw [List.getElem?_append_left q] at q1
  rw [List.getElem?_append_left (by rw [<- h.len];exact q)] at q2;exact h.ent j e' x' q1 q2
 ·rw [List.getElem?_append_right q] at q1
  rw [List.getElem?_append_right (by rw [<- h.len];exact q)] at q2
  have hj:j - E.length=0:=by
   have:=(zgT.1 q1).1;simp at this;omega
  rw [hj] at q1;rw [<- h.len,hj] at q2;simp at q1 q2;subst q1 q2;exact ⟨h1,h2⟩
def zW (w:World) (v:Value) (G:Nat->Prop) (L:List zO):Prop:=
 ∃ E la cap,v=.slice la L.length cap∧L.length<=cap∧cap<=maxLen∧(la=none->cap=0)∧zaY w G E L ∧
  ∀ (j:Nat) u,(zH E)[j]? = some u->∃ lb lo,la=some ⟨lb,lo,none⟩∧G lb∧w.cell? ⟨lb,lo+j,none⟩=some u
theorem zW.chg {S:Nat->Prop} {w w':World} {v:Value} {G:Nat->Prop} {L:List zO} (h:zW w v G L) (hc:Chg S w w') (hs:∀ k,G k->¬ S k):zW w' v G L:=by
 obtain ⟨E,la,cap,h1,h2,h3,h4,h5,h6⟩:=h;exact ⟨E,la,cap,h1,h2,h3,h4,h5.chg hc hs,fun j u hj=>by obtain ⟨lb,lo,q1,q2,q3⟩:=h6 j u hj;exact ⟨lb,lo,q1,q2,zi hc (hs lb q2) q3⟩⟩
theorem zW.up {w:World} {v:Value} {G G':Nat->Prop} {L:List zO} (h:zW w v G L) (hg:∀ k,G k->G' k):zW w v G' L:=by
 obtain ⟨E,la,cap,h1,h2,h3,h4,h5,h6⟩:=h;exact ⟨E,la,cap,h1,h2,h3,h4,h5.up hg,fun j u hj=>by obtain ⟨lb,lo,q1,q2,q3⟩:=h6 j u hj;exact ⟨lb,lo,q1,hg _ q2,q3⟩⟩
theorem zW.get {w:World} {la:Option Addr} {n cap:Nat} {G:Nat->Prop} {L:List zO} (h:zW w (.slice la n cap) G L) {j:Nat} {x:zO} (hj:L[j]? = some x):
  ∃ g o sa sc,la=some ⟨g,o,none⟩∧G g∧w.cell? ⟨g,o+j*2,none⟩=some (.int .i64 x.1)∧w.cell? ⟨g,o+j*2+1,none⟩=some (.slice sa x.2.length sc)∧ZV w (.slice sa x.2.length sc) G x.2:=by
 obtain ⟨E,la',cap',e,_,_,_,h5,h6⟩:=h;cases e;have hl:=(zgT.1 hj).1;obtain ⟨e,he⟩:∃ e,E[j]? = some e:=⟨_,zgS (by rw [h5.len];exact hl)⟩;obtain ⟨q1,q2⟩:=h5.ent j e x he hj;obtain ⟨c1,c2⟩:=xi E j e he;obtain ⟨g,o,e1,hg,d1⟩:=h6 _ _ c1;obtain ⟨g',o',e2,_,d2⟩:=h6 _ _ c2;cases e1;cases e2;obtain ⟨sa,sc,e3⟩:=q2.shape;rw [e3] at d2 q2;rw [q1] at d1;exact ⟨g,o,sa,sc,rfl,hg,d1,by rw [Nat.add_assoc];exact d2,q2⟩
theorem zW.shape {w:World} {v:Value} {G:Nat->Prop} {L:List zO} (h:zW w v G L):∃ la cap,v=.slice la L.length cap∧L.length<=cap∧cap<=maxLen:=by
 obtain ⟨E,la,cap,h1,h2,h3,_⟩:=h;exact ⟨la,cap,h1,h2,h3⟩
theorem XQ (w:World) (G:Nat->Prop):zW w (.slice none 0 0) G []:=
 ⟨[],none,0,rfl,zhb _,by unfold maxLen;omega,fun _=>rfl,⟨rfl,fun j e x h=>by simp at h⟩,fun j u h=>by simp [zH] at h⟩
theorem xg {w:World} {base:Nat} {v:Value} {G:Nat->Prop} {E:List (Int × Value)} {L:List zO} (h:w.ownsRow base 34 2 v E.length (zH E)) (hE:zaY w G E L) (hG:∀ k,v.ownBlock=some k->G k):zW w v G L:=by
 have h0:=h;obtain ⟨h1,⟨rfl,h2⟩ | ⟨g,cap,cur,rfl,hg,hh,q1,q2,q3,q4⟩⟩:=h
 ·have hn:L=[]:=List.eq_nil_of_length_eq_zero (by rw [<- hE.len,h2])
  subst hn;exact XQ w G
 ·refine ⟨E,_,cap,by rw [hE.len],by rw [<- hE.len];exact q1,q2,(fun e=>by cases e),hE,fun j u hj=>⟨g,0,rfl,hG g rfl,?_⟩⟩
  have hj':=(zgT.1 hj).1;rw [Zi] at hj';rw [Nat.zero_add,h0.cellAt (j:=j) (by omega)];exact hj
theorem Tryz.elemEntry:zP Tryz.prog 34 2 32:=zK (z:=.agg #[.int .i64 0,.slice none 0 0]) (by kernel_rfl) rfl (by decide)
def zel (x:zO):Prop:=(0<=x.1∧x.1 < 8)∧zbJ x.2=true
instance (x:zO):Decidable (zel x):=by unfold zel;infer_instance
def zaq (x:zO):Bool:=decide (zel x)
theorem ZU {x:zO}:zaq x=true↔(0<=x.1∧x.1 < 8)∧zbJ x.2=true:=zg2
theorem YC {l:List ByteArray} (h:zbJ l=true):1<=l.length∧l.length<=16:=by
 have h:=of_decide_eq_true h;have h1:=h.1;have h2:=h.2.1;rw [zbi] at h1 h2;exact ⟨h1,h2⟩
def yD (x:zO) (L:List zO):Int:=if zaq x=true then (if x∈L then 11 else if 12<=L.length then 3 else 0) else 2
def xD (x:zO) (L:List zO):List zO:=if yD x L=0 then L++[x] else L
def zgB (x:zO) (L:List zO):Int:=if zaq x=true then (if x∈L then 0 else 10) else 2
def zgA (x:zO) (L:List zO):List zO:=if zgB x L=0 then L.erase x else L
structure LOk (L:List zO):Prop where
 nodup:L.Nodup
 may:∀ x∈L,zaq x=true
 few:L.length<=12
theorem zbD {x:zO} {L:List zO} (h:yD x L=0):zaq x=true∧x ∉ L∧L.length < 12:=by
 unfold yD at h;by_cases h1:zaq x=true
 ·rw [if_pos h1] at h
  by_cases h2:x∈L
  ·rw [if_pos h2] at h;simp at h
  ·rw [if_neg h2] at h
   by_cases h3:12<=L.length
   ·rw [if_pos h3] at h;simp at h
   ·exact ⟨h1,h2,by omega⟩
 ·rw [if_neg h1] at h;simp at h
def YJ:List zO->List zO->Int
 | _,[]=>0
 | L,x :: r=>if yD x L=0 then YJ (L++[x]) r else yD x L
theorem zbg {l:List zO} {k:Nat} {x:zO} (hx:l[k]? = some x):YJ (l.take k) (l.drop k)=if yD x (l.take k)=0 then YJ (l.take (k+1)) (l.drop (k+1)) else yD x (l.take k):=by
 have hl:=(zgT.1 hx).1;rw [List.drop_eq_getElem_cons hl,YJ,(zgT.1 hx).2,zha,hx];rfl
end Go.Proofs.YtcilaocknhphnaaGreat
