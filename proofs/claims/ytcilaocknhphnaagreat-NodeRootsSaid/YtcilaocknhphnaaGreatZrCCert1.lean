/-
  slices.Sort at []int: by the shelf's contract, over a row of the call's own. Where words stand: what the machine collects at a place, sorted, is the list of the words that begin there. Package match: here. Package match: All, First, Len. The reference's Atoms and May. The reference's May. Lists of hits, to be read. The reference's Of. What the arguments' readings say, in the words of the walks: words, and slices of words. Slices of words: append, and what is owned. Maps of plain elements, in any program: what a map's block says of each key; lookups, stores, deletions. The order of words; words sorted, each once (the reference's Right), in plain Lean. Package set: Has; the reference's Has. slices.Equal of sets. Sets of words in memory. Certificates in plain Lean: which may be. Base: what else. Kit2: what else. RPlain: what else. SOrd: what else. MRefs: what else. Tree: what else. BaseZ: what else. Kit2Z: what else. RPlainZ: what else. MRefsZ: what else. Package cert: isOf, alone, num; package word: Of of one atom; slices.Contains of ints.
-/
import Derived.Test.YtcilaocknhphnaaGreatZrSSet
import Derived.Ground.NamesProg
import Derived.Shelf.Lay
import Derived.Shelf.Sort.Plain
import Derived.Shelf.Slices.In.SortNone
import Derived.Laws.AppendOwnNone
import Derived.Test.YtcilaocknhphnaaGreatZrRPlain
import Derived.Laws.BytesString
import Derived.Laws.BytesArg
import Derived.Test.YtcilaocknhphnaaGreatRows
import Derived.ProofKit
import Derived.OpenShut
import Derived.ShutString
import Derived.ChangeOld
import Derived.Deep.Slices
import Derived.Test.YtcilaocknhphnaaGreatZrKit2
import Derived.Maps.Own
import Derived.Maps.OwnOps
import Derived.Maps.OwnSet
import Derived.Maps.Views
import Derived.Maps.RangeWalk
import Derived.WalkSpells
import Derived.Sort.Walk0
namespace Go.Proofs
open Go.Shelf
shelf_lay Lays.n189 Nm 189 at Tryz as Tryz.laysSort
end Go.Proofs
namespace Go.Proofs.YtcilaocknhphnaaGreat

theorem zdo.take {ps:List (List Nat)} (h:zdo ps) (A:List Nat):∀ (d j:Nat),A.take (j+d)∈ps->A.take j∈ps
 | 0,j,hm=>hm
 | d+1,j,hm=>by
  rcases Nat.lt_or_ge (j+d) A.length with q | q
  ·refine zdo.take h A d j ?_
   have:A.take (j+(d+1))=A.take (j+d)++[A[j+d]]:=by
    rw [show j+(d+1)=j+d+1 from by omega,List.take_succ_eq_append_getElem q]
   rw [this] at hm;exact h.down _ _ hm
  ·refine zdo.take h A d j ?_
   rw [List.take_of_length_le q];rw [List.take_of_length_le (by omega)] at hm;exact hm
open Go.RowKit Go.Maps
theorem Chg.own {w w1 w2:World} {v:Value} {e:TypeId} {size n:Nat} {xs:List Value} (h:Chg (fun _=>False) w w1) (ho:w1.ownsRow w.heap.size e size v n xs) (hc:Chg (fun x=>v.ownBlock=some x) w1 w2):Chg (fun _=>False) w w2:=
 ⟨hc.os.trans h.os,hc.tape.trans h.tape,hc.output.trans h.output,Nat.le_trans h.size hc.size,fun i hi _=>by
  rw [hc.block i (by have:=h.size;omega) (fun e=>by have:=(ho.lt i e).1;omega)];exact h.block i hi (fun e=>e)⟩
def zbl (l:List (Nat × Nat)):List Value:=l.flatMap fun h=>[.int .i64 (h.1:Int),.int .i64 (h.2:Int)]
theorem zap (a b:List (Nat × Nat)):zbl (a++b)=zbl a++zbl b:=by unfold zbl;rw [List.flatMap_append]
theorem Tryz.elemHit:zP Tryz.prog 541 2 16:=zK (z:=.agg #[.int .i64 0,.int .i64 0]) (by kernel_rfl) rfl (by decide)
theorem Xn {w:World} {base:Nat} {e:TypeId} {size n:Nat} {xs:List Value} {v v' u:Value} (h:zcj v u) (hs:Zd w v v') (hu:w.ownsRow base e size u n xs):zcj v' u:=by
 intro x hx hu';rcases hs with hs | hs
 ·rw [hs] at hx;exact h x hx hu'
 ·have:=hs x hx;have:=(hu.lt x hu').2;omega
theorem zct {w w':World} {base:Nat} {e:TypeId} {size n:Nat} {xs:List Value} {v u:Value} (h:w.ownsRow base e size u n xs) (hg:w.grownBy w' v.ownBlock) (ha:zcj v u):w'.ownsRow base e size u n xs:=
 zo h (Chg.of_grown hg) (fun k hk e=>ha k e hk)
def Xo (l:List Nat):List Value:=l.map fun (a:Nat)=>.int .u16 (a:Int)
theorem Tryz.elemAtom:zP Tryz.prog 58 1 2:=zK (z:=.int .u16 0) (by kernel_rfl) rfl (by decide)
theorem zah {w:World} {base:Nat} {e:TypeId} {v:Value} {n:Nat} {xs:List Value} (h:w.ownsRow base e 1 v n xs):∃ a cap,v=.slice a n cap∧n<=maxLen∧∀ (j:Nat) x,xs[j]? = some x->∃ g,a=some ⟨g,0,none⟩∧base<=g∧w.cell? ⟨g,j,none⟩=some x:=by
 have h0:=h;obtain ⟨h1,⟨rfl,h2⟩ | ⟨g,cap,cur,rfl,hg,hh,q1,q2,q3,q4⟩⟩:=h
 ·refine ⟨none,0,by rw [h2],by rw [h2];unfold maxLen;omega,fun j x hj=>?_⟩
  have:j < xs.length:=(zgT.1 hj).1;omega
 ·refine ⟨_,cap,rfl,by omega,fun j x hj=>⟨g,rfl,hg,?_⟩⟩
  have hj':j < xs.length:=(zgT.1 hj).1;have:=h0.cellAt (j:=j) (by omega);rw [this,hj]
def zek (w:World) (v:Value) (G:Nat->Prop) (l:List (Nat × Nat)):Prop:=
 ∃ la cap,v=.slice la l.length cap∧l.length<=maxLen∧∀ (j:Nat) h,l[j]? = some h->∃ g o,la=some ⟨g,o,none⟩∧G g∧w.cell? ⟨g,o+j*2,none⟩=some (.int .i64 (h.1:Int))∧w.cell? ⟨g,o+j*2+1,none⟩=some (.int .i64 (h.2:Int))
theorem Tryz.elemByte:zP Tryz.prog 5 1 1:=zK (z:=.int .u8 0) (by kernel_rfl) rfl (by decide)
theorem Yg (m:Nat) (z:Int) (hm:m < 256) (hz:z=m):Value.int .u8 z=Yu (UInt8.ofNat m):=by
 subst hz;unfold Yu;rw [UInt8.toNat_ofNat'];congr 1;omega
open Go.ChangeShapes Go.WideShapes Go.ChangeAt
theorem Tryz.own:ownKnob Tryz.prog.godebug=none:=by kernel_rfl
theorem Tryz.laidOut:laidOutB Tryz.prog=true:=by kernel_rfl
structure zgh (w:World) (v:Value) (l:List ByteArray):Prop where
 at_:zB w v (· < w.heap.size) l
 nil:∀ n c,v=.slice none n c->n=0∧c=0

def zV (l:List ByteArray):List Value:=l.map Value.string
theorem YU (l:List ByteArray):∀ v∈zV l,v.oneCell'=true:=by
 intro v hv;simp [zV] at hv;obtain ⟨c,_,rfl⟩:=hv;rfl
theorem Tryz.elemWord:zP Tryz.prog 29 1 16:=zK (z:=.string ⟨#[]⟩) (by kernel_rfl) rfl (by decide)
def ZC (P:Program) (k e:TypeId) (w:World) (b n:Nat) (f:Lit->Option (DataW Unit)):Prop:=
 ∃ D:DataW Unit,w.ownsMap P k (plainElem P e) b n D∧∀ kl,Maps.has D kl=(f kl).isSome∧∀ d,f kl=some d->∀ z,D.atKey kl z=d
open Classical in
noncomputable def zgf (f:Lit->Option (DataW Unit)) (kl:Lit) (d:Option (DataW Unit)):Lit->Option (DataW Unit):=fun x=>if x=kl then d else f x
theorem zbd (f:Lit->Option (DataW Unit)) (kl:Lit) (d:Option (DataW Unit)):zgf f kl d kl=d:=if_pos rfl
theorem XL (f:Lit->Option (DataW Unit)) {kl x:Lit} (h:x≠kl) (d:Option (DataW Unit)):zgf f kl d x=f x:=if_neg h
section
variable {P:Program} {k e:TypeId} {w:World} {b n:Nat} {f:Lit->Option (DataW Unit)}
theorem ZC.made (P:Program) (k e:TypeId) (w:World):ZC P k e (w.alloc (.map #[] 0)) w.heap.size 0 (fun _=>none):=
 ⟨.map [],World.ownsMap_made w P k _,fun _=>⟨rfl,fun d h=>by cases h⟩⟩
theorem ZC.chg {S:Nat->Prop} {w':World} (h:ZC P k e w b n f) (hc:Chg S w w') (hs:¬ S b):ZC P k e w' b n f:=by
 obtain ⟨D,⟨es,clock,hh,r⟩,q⟩:=h;exact ⟨D,⟨es,clock,hc.obj hs hh,r⟩,q⟩
theorem ZC.lt (h:ZC P k e w b n f):b < w.heap.size:=by
 obtain ⟨D,h,q⟩:=h;exact h.lt
theorem ZC.at {D:DataW Unit} (q:∀ kl,Maps.has D kl=(f kl).isSome∧∀ d,f kl=some d->∀ z,D.atKey kl z=d) (kl:Lit) (z:DataW Unit):D.atKey kl z=(f kl).getD z:=by
 obtain ⟨h1,h2⟩:=q kl;cases hf:f kl with
 | none=>rw [hf] at h1;exact atKey_of_not_has h1 z
 | some d=>exact h2 d hf z
theorem ZC.look_ok {t:TypeId} (h:ZC P k e w b n f) (K:Keyed P k) (ht:P.underlying t=some (.map k e)) {z:Value} (hz:(zeroValue e).run P w=.ok z w) {zd:DataW Unit} {zp:List MemPlace} (hzd:plainElem P e z=some (zd,zp))
  {key:Value} {kl:Lit} (hkey:keyOf P k key=some kl):∃ v ps,(Instr.lookup t (.map (some b)) key true).run P w=.ok (.tuple #[v,.bool (f kl).isSome]) w∧plainElem P e v=some ((f kl).getD zd,ps):=by
 obtain ⟨D,h,q⟩:=h;obtain ⟨v,ps,h1,h2⟩:=h.look_ok K ht hz hzd hkey;exact ⟨v,ps,by rw [h1,(q kl).1],by rw [h2,ZC.at q]⟩
theorem ZC.put {t:TypeId} (h:ZC P k e w b n f) (K:Keyed P k) (ht:P.underlying t=some (.map k e)) (hn:n < maxLen) {key val:Value} {kl:Lit} {d:DataW Unit} {ps:List MemPlace}
  (hkey:keyOf P k key=some kl) (hv:plainElem P e val=some (d,ps)):∃ w',(Instr.mapUpdate t (.map (some b)) key val).run P w=.ok () w'∧ZC P k e w' b (n+1) (zgf f kl (some d))∧Chg (·=b) w w':=by
 obtain ⟨D,h,q⟩:=h;obtain ⟨w',hr,h1,h2⟩:=h.update K ht hn hkey hv;refine ⟨w',hr,⟨_,h1,fun x=>?_⟩,(Chg.of_grown h2).mono (fun x _ e=>by cases e;rfl)⟩;have hk:=K.key hkey;by_cases hx:x=kl
 ·subst hx
  rw [zbd];exact ⟨has_put_same h.isMap hk d,fun d' e z=>by cases e;exact atKey_put_same h.isMap hk d z⟩
 ·rw [XL f hx,has_put_other hx]
  exact ⟨(q x).1,fun d' e z=>by rw [atKey_put_other hx];exact (q x).2 d' e z⟩
end
def YM (a b:ByteArray):Bool:=Ze a.data.toList b.data.toList
theorem Xg {a b:Wd}:Ze a b=true↔a.length < b.length∨a.length=b.length∧a < b:=by
 unfold Ze;by_cases h:a.length=b.length
 ·rw [if_pos h,bytesLess_eq,zg2]
  constructor
  ·exact fun q=>.inr ⟨h,q⟩
  ·rintro (q | q)
   ·omega
   ·exact q.2
 ·rw [if_neg h,zg2]
  constructor
  ·exact fun q=>.inl q
  ·rintro (q | q)
   ·exact q
   ·exact (h q.1).elim
theorem xp (a:Wd):Ze a a=false:=by
 rw [<- zhf,Xg];rintro (h | h)
 ·omega
 ·exact List.lt_irrefl a h.2
theorem Yr {a b c:Wd} (h:Ze a b=true) (k:Ze b c=true):Ze a c=true:=by
 rw [Xg] at *;rcases h with h | ⟨h,h2⟩ <;> rcases k with k | ⟨k,k2⟩
 ·exact .inl (by omega)
 ·exact .inl (by omega)
 ·exact .inl (by omega)
 ·exact .inr ⟨by omega,List.lt_trans h2 k2⟩
theorem Xf {a b:Wd} (h:Ze a b=false) (k:Ze b a=false):a=b:=by
 rw [<- zhf,Xg] at h k
 have hl:a.length=b.length:=by
  rcases Nat.lt_trichotomy a.length b.length with q | q | q
  ·exact (h (.inl q)).elim
  ·exact q
  ·exact (k (.inl q)).elim
 exact List.le_antisymm (List.not_lt.1 fun q=>k (.inr ⟨hl.symm,q⟩)) (List.not_lt.1 fun q=>h (.inr ⟨hl,q⟩))
def xw (last:Option ByteArray) (x:ByteArray):Bool:=match last with | none=>true | some y=>YM y x
def zed (best:Option ByteArray) (x:ByteArray):Bool:=match best with | none=>true | some y=>YM x y
def zcX (last best:Option ByteArray) (x:ByteArray):Option ByteArray:=if (xw last x && zed best x)=true then some x else best
def zfF (last:Option ByteArray) (l:List ByteArray):Option ByteArray:=l.foldl (zcX last) none
structure yV (l out:List ByteArray):Prop where
 sub:∀ x∈out,x∈l
 srt:out.Pairwise fun a b=>YM a b=true
 rest:∀ x∈l,x∈out∨xw out.getLast? x=true
section
variable (w:World) (v u:Value) (G G':Nat->Prop) (l m:List ByteArray)
theorem zd2 (hv:zB w v G l) (hu:zB w u G' m):Calls Tryz.prog 320 #[v,u] w fun e w'=>e=.returned (.bool (Xr l m))∧zU w w':=by
 obtain ⟨la,cap,rfl,hl0,hcl⟩:=hv;obtain ⟨ma,mcap,rfl,hm0,hcm⟩:=hu;have HCL:=zf hcl;have HCM:=zf hcm;unfold maxLen at hl0 hm0;clear hcl hcm;by_cases hlen:l.length=m.length
 ·have g:((l.length:Int) != (m.length:Int))=false:=by rw [zg7];omega
  have g2:((l.length:Int) == (m.length:Int))=true:=by rw [beq_iff_eq];omega
  have HL:=zf hlen;have hle1:l.length<=m.length:=by omega
  have hle2:m.length<=l.length:=by omega
  clear hlen;go_enter Tryz.func320,Tryz.ntmps320;go_wp2;go_loopw [13] (fun iv wr=>∃ k:Nat,k<=l.length∧iv=.int .i64 k∧Hid ((∀ j,j < k->l[j]? = m[j]?)∧zU w wr)) (fun iv _=>l.length - (intOf iv).toNat)
  case atStart=>exact ⟨0,by omega,rfl,zf ⟨fun j hj=>by omega,zU.refl _⟩⟩
  case round=>
   obtain ⟨k,hk,rfl,HI⟩:=hrel;by_cases hlt:k < l.length
   ·have hltm:k < m.length:=by omega
    obtain ⟨y,hy⟩:∃ y,l[k]? = some y:=⟨_,zgS hlt⟩;obtain ⟨z,hz⟩:∃ z,m[k]? = some z:=⟨_,zgS hltm⟩;obtain ⟨lb,lo,rfl,_,c0',_⟩:=HCL.out k y hy;obtain ⟨mb,mo,rfl,_,d0',_⟩:=HCM.out k z hz;have c0:=zQ HI.out.2 c0';have d0:=zQ HI.out.2 d0';have DR:=zf HI.out.2;by_cases hxy:y=z
    ·have n1:(y.toList != z.toList)=false:=by rw [zcm,zgQ hxy];rfl
     have n2:(y.toList == z.toList)=true:=by rw [za5,zgQ hxy]
     have HI2:=zf (show ∀ j,j < k+1->l[j]? = m[j]? from fun j hj=>by
      rcases Nat.lt_or_ge j k with q | q
      ·exact HI.out.1 j q
      ·obtain rfl:j=k:=by omega
       rw [hy,hz,hxy])
     clear hy hz hxy c0' d0' HI;go_wp2_with fail;go_quiet (fail);rename_i nq;have DQ:=zf (show zU w (wr.drewN nq) from DR.out.trans ⟨nq,rfl⟩);go_wp2;go_roundw
     case rel=>exact ⟨k+1,by omega,by go_num,zf ⟨HI2.out,DQ.out⟩⟩
     case measure=>simp [intOf];omega
    ·have n1:(y.toList != z.toList)=true:=by rw [zcm,zgR hxy];rfl
     have n2:(y.toList == z.toList)=false:=by rw [za5,zgR hxy]
     have R:=zf (show Xr l m=false from zgR (fun e=>by rw [e,hz] at hy;exact hxy (Option.some.inj hy).symm));clear hy hz hxy c0' d0' HI;go_wp2_with fail;go_quiet (fail);rename_i nq;have DQ:=zf (show zU w (wr.drewN nq) from DR.out.trans ⟨nq,rfl⟩);go_wp2;go_ret;exact ⟨by rw [R.out];rfl,DQ.out⟩
   ·obtain rfl:k=l.length:=by omega
    have R:=zf (show Xr l m=true from zgQ (zdx HL.out HI.out.1));go_wp2;go_ret;exact ⟨by rw [R.out];rfl,HI.out.2⟩
 ·have g:((l.length:Int) != (m.length:Int))=true:=by rw [zg6];omega
  have g2:((l.length:Int) == (m.length:Int))=false:=by rw [zg1];omega
  have R:=zf (show Xr l m=false from zgR (fun e=>hlen (by rw [e])));clear hlen;go_enter Tryz.func320,Tryz.ntmps320;go_wp2;go_ret;exact ⟨by rw [R.out];rfl,zU.refl _⟩
end
structure ZV (w:World) (v:Value) (G:Nat->Prop) (l:List ByteArray):Prop where
 at_:zB w v G l
 nil:∀ n c,v=.slice none n c->n=0∧c=0
theorem ZV.chg {S:Nat->Prop} {w w':World} {v:Value} {G:Nat->Prop} {l:List ByteArray} (h:ZV w v G l) (hc:Chg S w w') (hs:∀ k,G k->¬ S k):ZV w' v G l:=⟨h.at_.chg hc hs,h.nil⟩
theorem zB.up {w:World} {v:Value} {G G':Nat->Prop} {l:List ByteArray} (h:zB w v G l) (hg:∀ k,G k->G' k):zB w v G' l:=by
 obtain ⟨la,cap,h1,h2,h3⟩:=h;exact ⟨la,cap,h1,h2,fun j r hj=>by obtain ⟨lb,lo,q1,q2,q3⟩:=h3 j r hj;exact ⟨lb,lo,q1,hg _ q2,q3⟩⟩
theorem ZV.up {w:World} {v:Value} {G G':Nat->Prop} {l:List ByteArray} (h:ZV w v G l) (hg:∀ k,G k->G' k):ZV w v G' l:=⟨h.at_.up hg,h.nil⟩
theorem ZV.shape {w:World} {v:Value} {G:Nat->Prop} {l:List ByteArray} (h:ZV w v G l):∃ a c,v=.slice a l.length c:=by
 obtain ⟨la,cap,e,_⟩:=h.at_;exact ⟨la,cap,e⟩
theorem ZV.some {w:World} {a:Option Addr} {n c:Nat} {G:Nat->Prop} {l:List ByteArray} (h:ZV w (.slice a n c) G l) (hn:0 < l.length):∃ g o,a=some ⟨g,o,none⟩∧G g:=by
 obtain ⟨la,cap,e,_,hc⟩:=h.at_;cases e;obtain ⟨g,o,e,q,_⟩:=hc 0 _ (zgS hn);exact ⟨g,o,e,q⟩
theorem xQ {w:World} {la:Option Addr} {n cap:Nat} {G:Nat->Prop} {l:List ByteArray} (h:zB w (.slice la n cap) G l):∀ (j:Nat) u,(zV l)[j]? = some u->∃ g o,la=some ⟨g,o,none⟩∧w.cell? ⟨g,o+j,none⟩=some u:=by
 obtain ⟨la',cap',e,_,hc⟩:=h;cases e;intro j u hj;unfold zV at hj;rw [zg3] at hj;cases hq:l[j]? with
 | none=>rw [hq] at hj;cases hj
 | some x=>
  rw [hq] at hj;cases hj;obtain ⟨g,o,e1,_,c,_⟩:=hc j x hq;exact ⟨g,o,e1,c⟩
theorem yK {w:World} {base:Nat} {v:Value} {l:List ByteArray} (h:w.ownsRow base 29 1 v l.length (zV l)) (hs:∀ x∈l,x.size<=maxLen):ZV w v (fun k=>v.ownBlock=Option.some k) l:=by
 refine ⟨?_,?_⟩
 ·obtain ⟨a,cap,rfl,h1,h2⟩:=zah h
  refine ⟨a,cap,rfl,h1,fun j x hj=>?_⟩;obtain ⟨g,rfl,hg,c⟩:=h2 j (.string x) (by unfold zV;rw [zg3,hj];rfl);exact ⟨g,0,rfl,rfl,by rw [Nat.zero_add];exact c,hs x (zgU hj)⟩
 ·intro n c e
  obtain ⟨_,⟨e2,_⟩ | ⟨g,cap,cur,e2,_⟩⟩:=h
  ·rw [e2] at e;cases e;exact ⟨rfl,rfl⟩
  ·rw [e2] at e;cases e
theorem yJ {s:List ByteArray} (h:zbJ s=true) {x:ByteArray} (hx:x∈s):ZO x.data.toList=true:=by
 obtain ⟨j,hj⟩:=List.mem_iff_getElem?.1 hx;obtain ⟨_,_,h3⟩:=of_decide_eq_true h;have:=(h3 j (by rw [zL];exact (zgT.1 hj).1)).1;rwa [yr hj] at this
structure zfQ where
 kind:Int
 sg:Nat
 sp:ByteArray
 fr:List ByteArray
 f:Int
 t:Int
 n:Int
deriving DecidableEq
structure zgy (c:zfQ):Prop where
 k1:1<=c.kind
 k7:c.kind<=7
 sg:c.sg / 8192=1
 sp:ZO c.sp.data.toList=true
 fr:zbJ c.fr=true
 f0:0<=c.f
 f1:c.f<=4611686018427387904
 t0:0<=c.t
 t1:c.t<=4611686018427387904
 n0:0<=c.n
 n1:c.n<=4611686018427387904
 ft:c.f<=c.t
 len:∀ w∈c.fr,zG c.sp.data.toList<=zG w.data.toList
theorem zeW {a b c:Wd} (h:Ze a c=true) (k:Ze a b=false):Ze b c=true:=by
 cases q:Ze b a with
 | true=>exact Yr q h
 | false=>rw [<- Xf k q];exact h
theorem zb3 {last:Option ByteArray}:∀ (l:List ByteArray) (best:Option ByteArray),
  (∀ y,l.foldl (zcX last) best=some y->(best=some y∨(y∈l∧xw last y=true))∧(∀ x∈l,xw last x=true->YM x y=false)∧∀ z,best=some z->YM z y=false) ∧
  (l.foldl (zcX last) best=none->best=none∧∀ x∈l,xw last x=false)
 | [],best=>⟨fun y h=>⟨.inl h,fun _ hx=>(List.not_mem_nil hx).elim,fun z hz=>by rw [show best=some y from h] at hz;cases hz;exact xp _⟩,fun h=>⟨h,fun _ hx=>(List.not_mem_nil hx).elim⟩⟩
 | a :: l,best=>by
  rw [List.foldl_cons];obtain ⟨h1,h2⟩:=zb3 l (zcX last best a);by_cases hp:(xw last a && zed best a)=true
  ·have e:zcX last best a=some a:=if_pos hp
   rw [zhd] at hp;refine ⟨fun y hy=>?_,fun hn=>?_⟩
   ·obtain ⟨q1,q2,q3⟩:=h1 y hy
    have hay:=q3 a e;refine ⟨?_,fun x hx hax=>?_,fun z hz=>?_⟩
    ·rcases q1 with q | q
     ·rw [e] at q;cases q
      exact .inr ⟨List.mem_cons_self,hp.1⟩
     ·exact .inr ⟨List.mem_cons_of_mem _ q.1,q.2⟩
    ·rcases List.mem_cons.1 hx with rfl | hx
     ·exact hay
     ·exact q2 x hx hax
    ·subst hz
     have hb:YM a z=true:=hp.2;rw [<- zhf];intro q;rw [show YM a y=true from Yr hb q] at hay;cases hay
   ·have:=(h2 hn).1
    rw [e] at this;cases this
  ·have e:zcX last best a=best:=if_neg hp
   rw [e] at h1 h2 ⊢;refine ⟨fun y hy=>?_,fun hn=>?_⟩
   ·obtain ⟨q1,q2,q3⟩:=h1 y hy
    refine ⟨?_,fun x hx hax=>?_,q3⟩
    ·rcases q1 with q | q
     ·exact .inl q
     ·exact .inr ⟨List.mem_cons_of_mem _ q.1,q.2⟩
    ·rcases List.mem_cons.1 hx with rfl | hx
     ·cases best with
      | none=>exact (hp (by rw [hax];rfl)).elim
      | some z=>
       have hz:YM x z=false:=by
        rw [<- zhf];intro q;exact hp (by rw [hax];exact q)
       have hzy:=q3 z rfl;rw [<- zhf];intro q;rw [show YM z y=true from zeW q hz] at hzy;cases hzy
     ·exact q2 x hx hax
   ·obtain ⟨q1,q2⟩:=h2 hn
    refine ⟨q1,fun x hx=>?_⟩;rcases List.mem_cons.1 hx with rfl | hx
    ·subst q1
     rw [<- zhf];intro q;exact hp (by rw [q];rfl)
    ·exact q2 x hx
theorem yV.nodup {l out:List ByteArray} (h:yV l out):out.Nodup:=h.srt.imp (fun {a b} q e=>by subst e;rw [show YM a a=false from xp _] at q;cases q)
theorem yV.le {l out:List ByteArray} (h:yV l out):out.length<=l.length:=zcv h.nodup h.sub
theorem zeg {out:List ByteArray} {y:ByteArray} (hs:out.Pairwise fun a b=>YM a b=true) (h:xw out.getLast? y=true):∀ x∈out,YM x y=true:=by
 rcases List.eq_nil_or_concat out with rfl | ⟨i,z,rfl⟩
 ·intro x hx;cases hx
 ·rw [List.concat_eq_append] at *
  rw [List.getLast?_append] at h;have hz:YM z y=true:=h;intro x hx;rcases zg4.1 hx with q | q
  ·exact Yr ((List.pairwise_append.1 hs).2.2 x q z (by simp)) hz
  ·rw [List.mem_singleton] at q;subst q;exact hz
theorem yV.next {l out:List ByteArray} (h:yV l out) {y:ByteArray} (hn:zfF out.getLast? l=some y):yV l (out++[y]):=by
 obtain ⟨q1,q2,_⟩:=(zb3 l none).1 y hn
 have q:y∈l∧xw out.getLast? y=true:=by
  rcases q1 with q | q
  ·cases q
  ·exact q
 have ha:=zeg h.srt q.2;refine ⟨fun x hx=>?_,?_,fun x hx=>?_⟩
 ·rcases zg4.1 hx with e | e
  ·exact h.sub x e
  ·rw [List.mem_singleton] at e;rw [e];exact q.1
 ·rw [List.pairwise_append]
  exact ⟨h.srt,List.pairwise_singleton _ _,fun x hx z hz=>by rw [List.mem_singleton] at hz;rw [hz];exact ha x hx⟩
 ·rw [List.getLast?_append]
  rcases h.rest x hx with e | e
  ·exact .inl (List.mem_append_left _ e)
  ·have hxy:=q2 x hx e
   cases hyx:YM y x with
   | true=>exact .inr hyx
   | false=>
    have:x=y:=by
     have:=Xf hxy hyx;cases x;cases y;simp only [ByteArray.mk.injEq];exact Array.toList_inj.1 this
    rw [this];exact .inl (by simp)
theorem yV.done {l out:List ByteArray} (h:yV l out) (hn:zfF out.getLast? l=none):∀ x∈l,x∈out:=by
 intro x hx;rcases h.rest x hx with e | e
 ·exact e
 ·rw [((zb3 l none).2 hn).2 x hx] at e;cases e
theorem yV.more {l out:List ByteArray} (h:yV l out) {y:ByteArray} (hn:zfF out.getLast? l=some y):out.length < l.length:=by
 have:=(h.next hn).le;rw [zgV,List.length_singleton] at this;omega
theorem zch (l:List Nat) (a:Nat):Xo (l++[a])=Xo l++[.int .u16 (a:Int)]:=by unfold Xo;rw [List.map_append];rfl
theorem zfw (x y:Nat) (hx:x < 256) (hy:y < 256):IntKind.u16.wrap (IntKind.u16.wrap (IntKind.u16.wrap (x:Int)*256)+IntKind.u16.wrap (y:Int))=((x*256+y:Nat):Int):=by
 have e1:IntKind.u16.wrap (x:Int)=(x:Int):=by show (x:Int) % 65536=_;omega
 have e2:IntKind.u16.wrap (y:Int)=(y:Int):=by show (y:Int) % 65536=_;omega
 have e3:IntKind.u16.wrap ((x:Int)*256)=(x:Int)*256:=by show ((x:Int)*256) % 65536=_;omega
 rw [e1,e2,e3];show ((x:Int)*256+(y:Int)) % 65536=_;omega
theorem zbC (s:ByteArray) (k:Nat) (hk:2*k+1 < s.size) (h0:2*k < s.size):zC s.data.toList k=(s[2*k]'h0).toNat*256+(s[2*k+1]'hk).toNat:=by
 have hsl:=zt s;unfold zC;rw [zgY,zgS (by omega),zgY,zgS (by omega)];rfl
set_option maxHeartbeats 1000000 in
set_option maxRecDepth 100000 in
theorem zcV (w:World) (s:ByteArray) (hs:s.size<=140737488355328):
  Calls Tryz.prog 237 #[.string s] w fun e w'=>∃ v,e=.returned v∧w'.ownsRow w.heap.size 58 1 v (yt s.data.toList).length (Xo (yt s.data.toList))∧Chg (fun _=>False) w w':=by
 have hsl:=zt s;have HN:=zf (show zG s.data.toList=s.size / 2 by unfold zG;rw [hsl]);have TK:=zf (fun k hk=>Xm s.data.toList (i:=k) hk);have AL:=zf (ZM s.data.toList);have AV:=zf (fun k hk h0=>zbC s k hk h0);clear hsl;go_enter Tryz.func237,Tryz.ntmps237;go_wp2;go_loopw [3,4] (fun lv iv wr=>∃ k:Nat,2*k<=s.size∧iv=.int .i64 ((2*k:Nat):Int)∧wr.ownsRow w.heap.size 58 1 lv k (Xo ((yt s.data.toList).take k))∧Chg (fun _=>False) w wr) (fun _ iv _=>s.size - (intOf iv).toNat)
 case atStart=>exact ⟨0,by omega,rfl,ya _ _ _ _ (zhb _),zj _ _ _⟩
 case round=>
  obtain ⟨k,hk,rfl,ho,hc⟩:=hrel;have HO:=zf ho;have HC:=zf hc;have hsz:=hc.size;clear ho hc;obtain ⟨i0,hi0⟩:∃ i0:Nat,2*k=i0:=⟨_,rfl⟩;by_cases hlt:i0+1 < s.size
  ·have TK1:=zf (TK.out k (by rw [HN.out];omega))
   have hav:=AV.out k (by omega) (by omega);obtain ⟨x,hx,qx⟩:∃ x,x < 256∧(s[i0]'(Nat.lt_of_succ_lt hlt)).toNat=x:=⟨_,UInt8.toNat_lt _,rfl⟩;obtain ⟨y,hy,qy⟩:∃ y,y < 256∧(s[i0+1]'hlt).toNat=y:=⟨_,UInt8.toNat_lt _,rfl⟩;have HAV:=zf (show zC s.data.toList k=x*256+y by rw [hav,<- qx,<- qy];simp only [hi0]);have HI0:=zf hi0;rw [hi0];clear hav hi0;have SUM:=zf (zfw x y hx hy);have a2:IntKind.i64.wrap ((i0:Int)+1)=(i0:Int)+1:=by rw [IntKind.wrap_i64];omega
   have b1:0<=(i0:Int):=by omega
   have b2:(i0:Int) < (s.size:Int):=by omega
   have b3:0<=(i0:Int)+1:=by omega
   have b4:(i0:Int)+1 < (s.size:Int):=by omega
   have t2:((i0:Int)+1).toNat=i0+1:=by omega
   go_wp2;refine zI (N:=28) [.rd [0,1,2,3,4,5,6,7,8,9,10,11],.ef 12,.ef 13,.rd [14]] (fun _=>True) (by kernel_rfl) (by kernel_rfl) (by kernel_rfl) (by kernel_rfl) (Nat.le_of_ble_eq_true rfl) trivial ?_;refine zS (A:=?A1) ?h1 ?h2
   case h1=>
    intro w' hS K hK;clear hS;simp only [zJ,zgL,zgM,zgN,zgO,zgP]
    repeat still_step
    refine wpStill_nil ?_;exact hK
   rw [SUM.out,<- HAV.out];clear a2 b1 b2 b3 b4 t2;have hk2:(k+1)*2<=140737488355328:=by have:=HI0.out;omega
   generalize zC s.data.toList k=ak at *;refine Zk rfl ?_;go_wp2_with fail;refine ⟨trivial,?_⟩;refine Zk rfl ?_;refine xO rfl (.tmp 13) (.tmp 25) 92 rfl 58 1 2 Tryz.underlying92 Tryz.elemAtom w.heap.size _ _ _ rfl ((zo HO.out (zA (fun _=>False) wr) (fun _ _ e=>e)).alloc _) _ [.int .u16 (ak:Int)] 58 (0,0) rfl (zh _ _) rfl (by intro u hu;simp at hu;subst hu;rfl) (by omega) (by unfold maxLen;omega) (by simp;omega) ?_;intro v5 w5 o5 g5;have C5:=zf (((HC.out.drew).alloc (.cells #[.int .u16 (ak:Int)] 58)).own ((zo HO.out (zA (fun _=>False) wr) (fun _ _ e=>e)).alloc _) (Chg.of_grown g5));rw [<- zch,<- TK1.out] at o5;have O5:=zf o5;clear o5 g5;go_wp2_with fail;refine ⟨trivial,?_⟩;refine zS (A:=?A2) ?h3 ?h4
   case h3=>
    intro w' hS K hK;clear hS;simp only [zJ,zgL,zgM,zgN,zgO,zgP]
    repeat still_step
    refine wpStill_nil ?_;exact hK
   refine ZT ?_;go_wp2;go_roundw
   case rel=>exact ⟨k+1,by have:=HI0.out;omega,by rw [show 2*(k+1)=i0+2 from by have:=HI0.out;omega];go_num,O5.out,C5.out⟩
   case measure=>simp [intOf];omega
  ·have HT:=zf (show (yt s.data.toList).take k=yt s.data.toList from List.take_of_length_le (by rw [AL.out,HN.out];omega))
   have HKL:=zf (show k=(yt s.data.toList).length by rw [AL.out,HN.out];omega);rw [hi0];have hge:(s.size:Int)<=(i0:Int)+1:=by omega
   have hd1:decide ((i0:Int)+1 < (s.size:Int))=false:=by rw [decide_eq_false_iff_not];omega
   have hd2:decide (i0+1 < s.size)=false:=by rw [decide_eq_false_iff_not];omega
   have hi1:i0<=140737488355328:=by omega
   clear hi0;go_wp2;go_ret;refine ⟨_,rfl,?_,HC.out⟩;have:=HO.out;rw [HT.out,HKL.out] at this;exact this
set_option maxRecDepth 100000 in
theorem zeI (w:World) (s:ByteArray) (hs:s.size<=140737488355328):
  Calls Tryz.prog 169 #[.string s] w fun e w'=>e=.returned (.bool (ZO s.data.toList))∧Chg (fun _=>False) w w':=by
 have hsl:=zt s;have ATO:=zf (zcV w s hs);have AL:=zf (ZM s.data.toList);have AG:=zf (show ∀ i,i < zG s.data.toList->(Xo (yt s.data.toList))[i]? = some (.int .u16 (zC s.data.toList i:Nat)) from fun i hi=>by unfold Xo;rw [zg3,ye _ hi];rfl);have MI:=zf (Zn s.data.toList);rw [hsl] at MI;have hn2:zG s.data.toList<=140737488355328:=by unfold zG;omega
 have MN:=zf (show ∀ i,i < zG s.data.toList->zC s.data.toList i=0->ZO s.data.toList=false from fun i hi h=>zcw hi h);have ALT:=zf (fun k=>zbB s.data.toList k);rw [AL.out] at ATO;clear hsl;generalize zG s.data.toList=n at *;go_enter Tryz.func169,Tryz.ntmps169;go_wp2_with fail;refine (ATO.out).mono ?_;rintro e w1 ⟨v1,rfl,o1,c1⟩;obtain ⟨ra,rc,rfl,hrl,hcl⟩:=zah o1;have HCL:=zf hcl;have C1:=zf c1;unfold maxLen at hrl;clear o1 c1 hcl;go_wp2;go_loop [4] (fun iv=>∃ k:Nat,k<=n∧iv=.int .i64 k∧Hid (∀ i,i < k->zC s.data.toList i≠0)) (fun iv=>n - (intOf iv).toNat)
 case atStart=>exact ⟨0,by omega,rfl,zf (fun i hi=>by omega)⟩
 case round=>
  obtain ⟨k,hk,rfl,HZ⟩:=hrel;by_cases hlt:k < n
  ·obtain ⟨g,rfl,_,cx⟩:=HCL.out k _ (AG.out k hlt)
   have hal:=ALT.out k;by_cases hz:zC s.data.toList k=0
   ·have HF:=zf (MN.out k hlt hz)
    rw [hz] at cx;clear hz;go_wp2;go_ret;exact ⟨by rw [HF.out];rfl,C1.out⟩
   ·have hz1:(((zC s.data.toList k:Nat):Int) == 0)=false:=by rw [zg1];omega
    have HZ2:=zf (show ∀ i,i < k+1->zC s.data.toList i≠0 from fun i hi=>by
     rcases Nat.lt_or_ge i k with q | q
     ·exact HZ.out i q
     ·obtain rfl:i=k:=by omega
      exact hz)
    clear hz;generalize zC s.data.toList k=ak at *;go_wp2;go_round
    case rel=>exact ⟨k+1,by omega,by go_num,HZ2⟩
    case measure=>simp [intOf];omega
  ·obtain rfl:k=n:=by omega
   have MB:=zf (show ZO s.data.toList=(decide (s.size % 2=0) && decide (1<=k) && decide (k<=8)) by
    rw [Bool.eq_iff_iff,MI.out];simp only [zhd,decide_eq_true_eq];constructor
    ·rintro ⟨h1,h2,h3,_⟩;exact ⟨⟨h1,h2⟩,h3⟩
    ·rintro ⟨⟨h1,h2⟩,h3⟩;exact ⟨h1,h2,h3,HZ.out⟩)
   have hkd:decide (k < k)=false:=by simp
   clear HCL AG MN MI HZ hlt;by_cases h1:s.size % 2=0
   ·have g1:((s.size:Int) % 2 == 0)=true:=by rw [beq_iff_eq];omega
    by_cases h2:1<=k
    ·have g2:decide (1<=(k:Int))=true:=by rw [decide_eq_true_eq];omega
     by_cases h3:k<=8
     ·have g3:decide ((k:Int)<=8)=true:=by rw [decide_eq_true_eq];omega
      have R:=zf (show ZO s.data.toList=true by rw [MB.out];simp [h1,h2,h3]);clear h1 MB;go_wp2;go_ret;exact ⟨by rw [R.out];rfl,C1.out⟩
     ·have g3:decide ((k:Int)<=8)=false:=by rw [decide_eq_false_iff_not];omega
      have R:=zf (show ZO s.data.toList=false by rw [MB.out];simp [h3]);clear h1 MB;go_wp2;go_ret;exact ⟨by rw [R.out];rfl,C1.out⟩
    ·have g2:decide (1<=(k:Int))=false:=by rw [decide_eq_false_iff_not];omega
     have R:=zf (show ZO s.data.toList=false by rw [MB.out];simp [h2]);clear h1 MB;go_wp2;go_ret;exact ⟨by rw [R.out];rfl,C1.out⟩
   ·have g1:((s.size:Int) % 2 == 0)=false:=by rw [zg1];omega
    have R:=zf (show ZO s.data.toList=false by rw [MB.out];simp [h1]);clear h1 MB;go_wp2;go_ret;exact ⟨by rw [R.out];rfl,C1.out⟩
open Classical in
section
end
theorem xN {P:Program} {ops:Array Oper} {w:World} {Q:Exit->Act->World->Prop} {a:Act} {o:Oper} {rest:List Oper} (h:Region.wanted o (yielded ops a.tmps)=false) (h2:wpList P ops Q rest (a.put o.dst undef) w):wpList P ops Q (o :: rest) a w:=by
 unfold wpList;rw [if_neg (by rw [h];decide)];exact h2
theorem Chg.setRow {S:Nat->Prop} {a b:World} (h:Chg S a b) {g:Nat} (hp:g < a.heap.size->S g) (cs:Array Value):Chg S a (b.setRow g cs):=
  ⟨h.os,h.tape,h.output,by simpa [World.setRow] using h.size,fun k hk hs=>by
    rw [setRow_other _ _ _ _ (by rintro rfl;exact hs (hp hk))];exact h.block k hk hs⟩
theorem XV (l:List UInt8):∀ v∈zu l,v.oneCell'=true:=by
  intro v hv;simp [zu] at hv;obtain ⟨c,_,rfl⟩:=hv;rfl
theorem Zj (l:List UInt8):(zu l).length=l.length:=by simp [zu]
theorem zaf {P:Program} (w:World) (dT ty elem:TypeId) (g o n c:Nat) (cur:List Value) (t:TypeId) (z:Value)
    (hu:P.underlying dT=some (.slice elem)) (hz:(zeroValue elem).run P w=.ok z w) (hz1:z.cells=#[z]) (hz2:z.oneCell'=true)
    (hg:w.heap[g]? = some (.cells cur.toArray t (0,0))) (hfit:o+n<=cur.length) (hn:0 < n):
    (Builtin.clear_ #[dT] ty #[.slice (some ⟨g,o,none⟩) n c]).run P w =
      .ok (.tuple #[]) (w.setRow g (splice cur o (Yx n z)).toArray):=by
  have hzc:Builtin.zeroCells z.cells n=(List.replicate n z).toArray:=by
    rw [hz1];unfold Builtin.zeroCells;apply Array.ext
    · simp
    · intro i h1 h2;simp at h1 h2 ⊢;simp [Nat.mod_one]
  have hst:=run_storeCells_at P g o t (List.replicate n z) 0 cur.toArray w hg (by simpa using hfit) (by intro v hv;rw [List.eq_of_mem_replicate hv];exact hz2);obtain ⟨m,rfl⟩:∃ m,n=m+1:=⟨n - 1,by omega⟩;simp [Builtin.clear_,run_underlying hu,hz,hzc,hst,splice,Yx]
theorem yv {w:World} {g:Nat} {cur:Array Value} {t:TypeId} (hg:w.heap[g]? = some (.cells cur t (0,0))) (l:List Value):zbF g l t w (w.setRow g l.toArray):=
  ⟨setRow_heap w g cur _ t _ hg,Chg.setRow (S:=fun x=>x=g) (Chg.refl _ _) (fun _=>rfl) _⟩
theorem xj {P:Program} {w:World} {ops:Array Oper} {rest:List Oper} {o:Oper} {a:Act} {Q:Exit->Act->World->Prop} (hgd:o.guard=none) (d:Operand) (dT:TypeId)
    (ho:o.op=.call { callee:=.builtin .clear,args:=#[d],argTypes:=#[dT] }) (elem:TypeId) (hu:P.underlying dT=some (.slice elem))
    (z:Value) (hz:∀ w,(zeroValue elem).run P w=.ok z w) (hz1:z.cells=#[z]) (hz2:z.oneCell'=true)
    (g off n c:Nat) (hd:a.eval d=.slice (some ⟨g,off,none⟩) n c) (cur:List Value) (t:TypeId) (hg:w.heap[g]? = some (.cells cur.toArray t (0,0))) (hfit:off+n<=cur.length) (hn:0 < n)
    (h:∀ w',zbF g (splice cur off (Yx n z)) t w w'->wpList P ops Q rest (a.put o.dst (.tuple #[])) w'):wpList P ops Q (o :: rest) a w:=by
  refine wpList_plain hgd fun K hK=>?_;have hrun:=zaf (P:=P) w dT o.type elem g off n c cur t z hu (hz w) hz1 hz2 hg hfit hn;unfold Oper.wp;simp [execOp,ho,resolve,invoke,builtin,hd,hrun,Result.andThen];exact hK _ _ (h _ (yv hg _))
theorem xf {P:Program} (w:World) (s:ByteArray) (k:Nat):(Builtin.firstCells k s.size (.string s)).run P w=.ok (zu s.data.toList).toArray w:=by
  have e:(s.extract 0 s.size)=s:=by simp
  simp only [Builtin.firstCells,e];show Result.ok _ _=_
  congr 1
  apply Array.ext';simp [zu];intro _ _;rfl
theorem xV {P:Program} (w:World) (dT sT ty elem:TypeId) (g o dLen dCap:Nat) (s:ByteArray) (cur:List Value) (t:TypeId)
    (hu:P.underlying dT=some (.slice elem)) (hs:(P.info? elem).map (·.size)=some 1)
    (hg:w.heap[g]? = some (.cells cur.toArray t (0,0))) (hle:s.size<=dLen) (hfit:o+s.size<=cur.length):
    (Builtin.copy_ #[dT,sT] ty #[.slice (some ⟨g,o,none⟩) dLen dCap,.string s]).run P w =
      .ok (goInt s.size) (w.setRow g (splice cur o (zu s.data.toList)).toArray):=by
  have hmin:Nat.min s.size dLen=s.size:=Nat.min_eq_left hle;have hl:(zu s.data.toList).length=s.size:=by rw [Zj,Array.length_toList];rfl
  have hst:=run_storeCells_at P g o t (zu s.data.toList) 0 cur.toArray w hg (by rw [hl];simpa using hfit) (XV _);have hfc:=xf (P:=P) w s 1;cases hq:P.info? elem with
  | none=>simp [hq] at hs
  | some i=>
    have hi:i.size=1:=by simpa [hq] using hs
    simp [Builtin.copy_,run_underlying hu,Builtin.lenOf,sizeOf,typeInfo,hq,hi,hmin,hfc,hst,splice]
theorem Yz {P:Program} {w:World} {ops:Array Oper} {rest:List Oper} {o:Oper} {a:Act} {Q:Exit->Act->World->Prop} (hgd:o.guard=none) (d sO:Operand) (dT sT:TypeId)
    (ho:o.op=.call { callee:=.builtin .copy,args:=#[d,sO],argTypes:=#[dT,sT] }) (elem:TypeId) (hu:P.underlying dT=some (.slice elem)) (hsz:(P.info? elem).map (·.size)=some 1)
    (g off n c:Nat) (s:ByteArray) (hd:a.eval d=.slice (some ⟨g,off,none⟩) n c) (hs:a.eval sO=.string s) (cur:List Value) (t:TypeId) (hg:w.heap[g]? = some (.cells cur.toArray t (0,0))) (hle:s.size<=n) (hfit:off+s.size<=cur.length)
    (h:∀ w',zbF g (splice cur off (zu s.data.toList)) t w w'->wpList P ops Q rest (a.put o.dst (goInt s.size)) w'):wpList P ops Q (o :: rest) a w:=by
  refine wpList_plain hgd fun K hK=>?_;have hrun:=xV (P:=P) w dT sT o.type elem g off n c s cur t hu hsz hg hle hfit;unfold Oper.wp;simp [execOp,ho,resolve,invoke,builtin,hd,hs,hrun,Result.andThen];exact hK _ _ (h _ (yv hg _))
theorem zae {P:Program} (w:World) (dT sT ty elem:TypeId) (sz g o dLen dCap g2 o2 sLen sCap:Nat) (cur src:List Value) (t t2:TypeId) (fz:Nat × Nat)
    (hu:P.underlying dT=some (.slice elem)) (hs:(P.info? elem).map (·.size)=some sz)
    (hg:w.heap[g]? = some (.cells cur.toArray t (0,0))) (hg2:w.heap[g2]? = some (.cells src.toArray t2 fz)) (h1:∀ v∈src,v.oneCell'=true)
    (hfit:o+Nat.min sLen dLen*sz<=cur.length) (hfit2:o2+Nat.min sLen dLen*sz<=src.length):
    (Builtin.copy_ #[dT,sT] ty #[.slice (some ⟨g,o,none⟩) dLen dCap,.slice (some ⟨g2,o2,none⟩) sLen sCap]).run P w =
      .ok (goInt (Nat.min sLen dLen)) (w.setRow g (splice cur o ((src.drop o2).take (Nat.min sLen dLen*sz))).toArray):=by
  have hcl:((src.drop o2).take (Nat.min sLen dLen*sz)).length=Nat.min sLen dLen*sz:=by simp;omega
  have hl:=run_loadCells_list (P:=P) w ⟨g2,o2,none⟩ ((src.drop o2).take (Nat.min sLen dLen*sz)) (fun j v hj=>by
    rw [ZG];refine zg hg2 ?_;rw [List.getElem?_take] at hj;split at hj
    · simpa using hj
    · cases hj)
  have hst:=run_storeCells_at P g o t ((src.drop o2).take (Nat.min sLen dLen*sz)) 0 cur.toArray w hg (by rw [hcl];simpa using hfit)
    (fun v hv=>h1 v (List.mem_of_mem_drop (List.mem_of_mem_take hv)))
  rw [hcl] at hl;cases hq:P.info? elem with
  | none=>simp [hq] at hs
  | some i=>
    have hi:i.size=sz:=by simpa [hq] using hs
    simp only [Builtin.copy_,Builtin.lenOf,Builtin.firstCells,sizeOf,typeInfo];simp [run_underlying hu,hq,hi,hl,hst,splice]
theorem xy {P:Program} {w:World} {ops:Array Oper} {rest:List Oper} {o:Oper} {a:Act} {Q:Exit->Act->World->Prop} (hgd:o.guard=none) (d s:Operand) (dT sT:TypeId)
    (ho:o.op=.call { callee:=.builtin .copy,args:=#[d,s],argTypes:=#[dT,sT] }) (elem:TypeId) (hu:P.underlying dT=some (.slice elem)) (sz:Nat) (hsz:(P.info? elem).map (·.size)=some sz)
    (g off dLen dCap g2 o2 sLen sCap:Nat) (hd:a.eval d=.slice (some ⟨g,off,none⟩) dLen dCap) (hs:a.eval s=.slice (some ⟨g2,o2,none⟩) sLen sCap)
    (cur src:List Value) (t t2:TypeId) (fz:Nat × Nat) (hg:w.heap[g]? = some (.cells cur.toArray t (0,0))) (hg2:w.heap[g2]? = some (.cells src.toArray t2 fz)) (h1:∀ v∈src,v.oneCell'=true)
    (hfit:off+Nat.min sLen dLen*sz<=cur.length) (hfit2:o2+Nat.min sLen dLen*sz<=src.length)
    (h:∀ w',zbF g (splice cur off ((src.drop o2).take (Nat.min sLen dLen*sz))) t w w'->wpList P ops Q rest (a.put o.dst (goInt (Nat.min sLen dLen))) w'):wpList P ops Q (o :: rest) a w:=by
  refine wpList_plain hgd fun K hK=>?_;have hrun:=zae (P:=P) w dT sT o.type elem sz g off dLen dCap g2 o2 sLen sCap cur src t t2 fz hu hsz hg hg2 h1 hfit hfit2;unfold Oper.wp;simp only [execOp,ho,resolve,invoke,builtin];simp [hd,hs,hrun,Result.andThen];exact hK _ _ (h _ (yv hg _))
theorem own_lt {w:World} {base:Nat} {e:TypeId} {size:Nat} {v:Value} {n:Nat} {xs:List Value} (h:w.ownsRow base e size v n xs):∀ k,v.ownBlock=some k->base<=k∧k < w.heap.size:=h.lt
theorem Yy {P:Program} {w:World} {ops:Array Oper} {rest:List Oper} {o:Oper} {a:Act} {Q:Exit->Act->World->Prop} (hgd:o.guard=none) (sl x:Operand) (t u:TypeId)
    (ho:o.op=.call { callee:=.builtin .append,args:=#[sl,x],argTypes:=#[t,u] }) (e:TypeId) (ht:P.underlying t=some (.slice e)) (hu:P.underlying u=some .string)
    (hE:(P.info? e).map (fun i=>(i.zero,i.size,i.bytes))=some (some (.int .u8 0),1,1))
    (base:Nat) (v:Value) (n:Nat) (xs:List Value) (hs:a.eval sl=v) (hown:w.ownsRow base e 1 v n xs) (s:ByteArray) (hx:a.eval x=.string s)
    (h63:n+s.size<=140737488355328) (hbase:base<=w.heap.size)
    (h:∀ v' w',w'.ownsRow base e 1 v' (n+s.size) (xs++zu s.data.toList)->w.grownBy w' v.ownBlock->wpList P ops Q rest (a.put o.dst v') w'):wpList P ops Q (o :: rest) a w:=by
  obtain ⟨i,hi,q1,q2,q3⟩:=info_parts hE;exact Lib.wpList_append_own_string w hgd sl x t u ho base e i ht hu hi q1 q2 q3 v n xs hs hown s hx (by unfold maxLen;omega) h63 hbase (fun v' w' h2 h3 _=>h v' w' h2 h3)
theorem zdJ {w:World} {base:Nat} {e:TypeId} {size:Nat} {v:Value} {n:Nat} {xs:List Value} (h:w.ownsRow base e size v n xs) (hn:0 < n):
    ∃ g cap,v=.slice (some ⟨g,0,none⟩) n cap∧base<=g∧n<=cap∧cap<=maxLen∧∀ j u,xs[j]? = some u->w.cell? ⟨g,j,none⟩=some u:=by
  obtain ⟨h1,h2 | ⟨g,cap,cur,rfl,hg,hh,q1,q2,q3,q4⟩⟩:=h
  · omega
  · refine ⟨g,cap,rfl,hg,q1,q2,fun j u hj=>zg hh ?_⟩
    rw [<- q4,List.getElem?_take] at hj;split at hj
    · simpa using hj
    · cases hj
theorem yu.lt {w:World} {g:Nat} {t:TypeId} {xs:List Value} (h:yu w g t xs):g < w.heap.size:=by
  obtain ⟨rest,h⟩:=h;exact zl h
theorem zgF.cell {w:World} {base:Nat} {e:TypeId} {v:Value} {xs:List Value} (h:zgF w base e v xs):∃ g cap,v=.slice (some ⟨g,0,none⟩) xs.length cap∧base<=g∧xs.length<=cap∧cap<=maxLen∧∀ j u,xs[j]? = some u->w.cell? ⟨g,j,none⟩=some u:=by
  obtain ⟨g,cap,cur,fz,rfl,hb,hg,_,h1,h2,h3,h4⟩:=h;refine ⟨g,cap,rfl,hb,h1,h2,fun j u hj=>zg hg ?_⟩;rw [<- h4,List.getElem?_take] at hj;split at hj
  · simpa using hj
  · cases hj
theorem yu.some {w:World} {g:Nat} {t:TypeId} {xs:List Value} (h:yu w g t xs) {i:Nat} (hi:i < xs.length):∃ v,w.cell? ⟨g,i,none⟩=some v:=⟨_,h.cell (zgS hi)⟩
end Go.Proofs.YtcilaocknhphnaaGreat

namespace Go.Proofs.YtcilaocknhphnaaGreat
open Go.RowKit Go.Maps
theorem zek.chg {S:Nat->Prop} {w w':World} {v:Value} {G:Nat->Prop} {l:List (Nat × Nat)} (h:zek w v G l) (hc:Chg S w w') (hs:∀ k,G k->¬ S k):zek w' v G l:=by
  obtain ⟨la,cap,h1,h2,h3⟩:=h;exact ⟨la,cap,h1,h2,fun j x hj=>by obtain ⟨g,o,q1,q2,q3,q4⟩:=h3 j x hj;exact ⟨g,o,q1,q2,zi hc (hs g q2) q3,zi hc (hs g q2) q4⟩⟩
open Classical in
section
variable {P:Program} {k e:TypeId} {w:World} {b n:Nat} {f:Lit->Option (DataW Unit)}
theorem ZC.mono {n':Nat} (h:ZC P k e w b n f) (hn:n<=n'):ZC P k e w b n' f:=by
  obtain ⟨D,h,q⟩:=h;exact ⟨D,h.mono hn,q⟩
theorem ZC.look {t:TypeId} (h:ZC P k e w b n f) (K:Keyed P k) (ht:P.underlying t=some (.map k e)) {z:Value} (hz:(zeroValue e).run P w=.ok z w) {zd:DataW Unit} {zp:List MemPlace} (hzd:plainElem P e z=some (zd,zp))
    {key:Value} {kl:Lit} (hkey:keyOf P k key=some kl):∃ v ps,(Instr.lookup t (.map (some b)) key false).run P w=.ok v w∧plainElem P e v=some ((f kl).getD zd,ps):=by
  obtain ⟨D,h,q⟩:=h;obtain ⟨v,ps,h1,h2⟩:=h.lookup K ht hz hzd hkey;exact ⟨v,ps,h1,by rw [h2,ZC.at q]⟩
theorem ZC.del {t:TypeId} (h:ZC P k e w b n f) (K:Keyed P k) (ht:P.underlying t=some (.map k e)) {key:Value} {kl:Lit} (hkey:keyOf P k key=some kl) (ty:TypeId):
    ∃ w',(Builtin.delete_ #[t,k] ty #[.map (some b),key]).run P w=.ok (.tuple #[]) w'∧ZC P k e w' b n (zgf f kl none)∧Chg (·=b) w w':=by
  obtain ⟨D,h,q⟩:=h;obtain ⟨w',hr,h1,h2⟩:=h.drop K ht hkey ty;refine ⟨w',hr,⟨_,h1,fun x=>?_⟩,(Chg.of_grown h2.grown).mono (fun x _ e=>by cases e;rfl)⟩;by_cases hx:x=kl
  · subst hx
    rw [zbd];exact ⟨has_del_same,fun d' e z=>by cases e⟩
  · rw [XL f hx,has_del_other hx]
    exact ⟨(q x).1,fun d' e z=>by rw [atKey_del_other hx];exact (q x).2 d' e z⟩
end
def zej (w:World) (v:Value) (G:Nat->Prop) (l:List Int):Prop:=
 ∃ la cap,v=.slice la l.length cap∧l.length<=maxLen∧∀ (j:Nat) x,l[j]? = some x->∃ g o,la=some ⟨g,o,none⟩∧G g∧w.cell? ⟨g,o+j,none⟩=some (.int .i64 x)
theorem zej.chg {S:Nat->Prop} {w w':World} {v:Value} {G:Nat->Prop} {l:List Int} (h:zej w v G l) (hc:Chg S w w') (hs:∀ k,G k->¬ S k):zej w' v G l:=by
 obtain ⟨la,cap,h1,h2,h3⟩:=h;exact ⟨la,cap,h1,h2,fun j x hj=>by obtain ⟨g,o,q1,q2,q3⟩:=h3 j x hj;exact ⟨g,o,q1,q2,zi hc (hs g q2) q3⟩⟩
end Go.Proofs.YtcilaocknhphnaaGreat
