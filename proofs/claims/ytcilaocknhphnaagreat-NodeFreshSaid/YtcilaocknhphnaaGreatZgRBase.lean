/-
  The order of words; words sorted, each once (the reference's Right), in plain Lean. Package set: Has; the reference's Has. slices.Equal of sets. Sets of words in memory. Certificates in plain Lean: which may be. Base: what else. Kit2: what else. RPlain: what else. SOrd: what else. MRefs: what else. Tree: what else. BaseZ: what else. Kit2Z: what else. RPlainZ: what else. MRefsZ: what else. TreeZ: what else. Package word: within, Find, Swap (where they are asked right). Package reach: Counts, machine. Package reach: machine. Layer 11: single steps (plain).
-/
import Derived.Test.YtcilaocknhphnaaGreatZgMRefs
import Derived.Sort.Walk0
import Derived.Test.YtcilaocknhphnaaGreatZgKit2
import Derived.WalkLawsBesides
import Derived.WalkSpells
import Derived.Laws.NewBlocks
import Derived.Laws.OwnMore
import Derived.Laws.MakeOwn
namespace Go.Proofs.YtcilaocknhphnaaGreat
open Go.RowKit Go.Maps
def ZY (a b:ByteArray):Bool:=Zs a.data.toList b.data.toList
theorem zaI {a b:Wd}:Zs a b=true↔a.length < b.length∨a.length=b.length∧a < b:=by
 unfold Zs;by_cases h:a.length=b.length
 ·rw [if_pos h,bytesLess_eq,zlJ]
  constructor
  ·exact fun q=>.inr ⟨h,q⟩
  ·rintro (q | q)
   ·omega
   ·exact q.2
 ·rw [if_neg h,zlJ]
  constructor
  ·exact fun q=>.inl q
  ·rintro (q | q)
   ·exact q
   ·exact (h q.1).elim
theorem ZF (a:Wd):Zs a a=false:=by
 rw [<- zlW,zaI];rintro (h | h)
 ·omega
 ·exact List.lt_irrefl a h.2
theorem ZH {a b c:Wd} (h:Zs a b=true) (k:Zs b c=true):Zs a c=true:=by
 rw [zaI] at *;rcases h with h | ⟨h,h2⟩ <;> rcases k with k | ⟨k,k2⟩
 ·exact .inl (by omega)
 ·exact .inl (by omega)
 ·exact .inl (by omega)
 ·exact .inr ⟨by omega,List.lt_trans h2 k2⟩
theorem Ya {a b:Wd} (h:Zs a b=false) (k:Zs b a=false):a=b:=by
 rw [<- zlW,zaI] at h k
 have hl:a.length=b.length:=by
  rcases Nat.lt_trichotomy a.length b.length with q | q | q
  ·exact (h (.inl q)).elim
  ·exact q
  ·exact (k (.inl q)).elim
 exact List.le_antisymm (List.not_lt.1 fun q=>k (.inr ⟨hl.symm,q⟩)) (List.not_lt.1 fun q=>h (.inr ⟨hl,q⟩))
def xf (last:Option ByteArray) (x:ByteArray):Bool:=match last with | none=>true | some y=>ZY y x
def zep (best:Option ByteArray) (x:ByteArray):Bool:=match best with | none=>true | some y=>ZY x y
def zdO (last best:Option ByteArray) (x:ByteArray):Option ByteArray:=if (xf last x && zep best x)=true then some x else best
def Xw (last:Option ByteArray) (l:List ByteArray):Option ByteArray:=l.foldl (zdO last) none
structure yN (l out:List ByteArray):Prop where
 sub:∀ x∈out,x∈l
 srt:out.Pairwise fun a b=>ZY a b=true
 rest:∀ x∈l,x∈out∨xf out.getLast? x=true
section
variable (w:World) (v u:Value) (G G':Nat->Prop) (l m:List ByteArray)
theorem zc7 (hv:zV w v G l) (hu:zV w u G' m):Calls Tryz.prog 320 #[v,u] w fun e w'=>e=.returned (.bool (Xa l m))∧Zo w w':=by
 obtain ⟨la,cap,rfl,hl0,hcl⟩:=hv;obtain ⟨ma,mcap,rfl,hm0,hcm⟩:=hu;have HCL:=zf hcl;have HCM:=zf hcm;unfold maxLen at hl0 hm0;clear hcl hcm;by_cases hlen:l.length=m.length
 ·have g:((l.length:Int) != (m.length:Int))=false:=by rw [zlO];omega
  have g2:((l.length:Int) == (m.length:Int))=true:=by rw [beq_iff_eq];omega
  have HL:=zf hlen;have hle1:l.length<=m.length:=by omega
  have hle2:m.length<=l.length:=by omega
  clear hlen;go_enter Tryz.func320,Tryz.ntmps320;go_wp2;go_loopw [13] (fun iv wr=>∃ k:Nat,k<=l.length∧iv=.int .i64 k∧Hid ((∀ j,j < k->l[j]? = m[j]?)∧Zo w wr)) (fun iv _=>l.length - (intOf iv).toNat)
  case atStart=>exact ⟨0,by omega,rfl,zf ⟨fun j hj=>by omega,Zo.refl _⟩⟩
  case round=>
   obtain ⟨k,hk,rfl,HI⟩:=hrel;by_cases hlt:k < l.length
   ·have hltm:k < m.length:=by omega
    obtain ⟨y,hy⟩:∃ y,l[k]? = some y:=⟨_,zlz hlt⟩;obtain ⟨z,hz⟩:∃ z,m[k]? = some z:=⟨_,zlz hltm⟩;obtain ⟨lb,lo,rfl,_,c0',_⟩:=HCL.out k y hy;obtain ⟨mb,mo,rfl,_,d0',_⟩:=HCM.out k z hz;have c0:=Zx HI.out.2 c0';have d0:=Zx HI.out.2 d0';have DR:=zf HI.out.2;by_cases hxy:y=z
    ·have n1:(y.toList != z.toList)=false:=by rw [zev,zlx hxy];rfl
     have n2:(y.toList == z.toList)=true:=by rw [XJ,zlx hxy]
     have HI2:=zf (show ∀ j,j < k+1->l[j]? = m[j]? from fun j hj=>by
      rcases Nat.lt_or_ge j k with q | q
      ·exact HI.out.1 j q
      ·obtain rfl:j=k:=by omega
       rw [hy,hz,hxy])
     clear hy hz hxy c0' d0' HI;go_wp2_with fail;go_quiet (fail);rename_i nq;have DQ:=zf (show Zo w (wr.drewN nq) from DR.out.trans ⟨nq,rfl⟩);go_wp2;go_roundw
     case rel=>exact ⟨k+1,by omega,by go_num,zf ⟨HI2.out,DQ.out⟩⟩
     case measure=>simp [intOf];omega
    ·have n1:(y.toList != z.toList)=true:=by rw [zev,zly hxy];rfl
     have n2:(y.toList == z.toList)=false:=by rw [XJ,zly hxy]
     have R:=zf (show Xa l m=false from zly (fun e=>by rw [e,hz] at hy;exact hxy (Option.some.inj hy).symm));clear hy hz hxy c0' d0' HI;go_wp2_with fail;go_quiet (fail);rename_i nq;have DQ:=zf (show Zo w (wr.drewN nq) from DR.out.trans ⟨nq,rfl⟩);go_wp2;go_ret;exact ⟨by rw [R.out];rfl,DQ.out⟩
   ·obtain rfl:k=l.length:=by omega
    have R:=zf (show Xa l m=true from zlx (zgn HL.out HI.out.1));go_wp2;go_ret;exact ⟨by rw [R.out];rfl,HI.out.2⟩
 ·have g:((l.length:Int) != (m.length:Int))=true:=by rw [zlN];omega
  have g2:((l.length:Int) == (m.length:Int))=false:=by rw [zlI];omega
  have R:=zf (show Xa l m=false from zly (fun e=>hlen (by rw [e])));clear hlen;go_enter Tryz.func320,Tryz.ntmps320;go_wp2;go_ret;exact ⟨by rw [R.out];rfl,Zo.refl _⟩
end
structure yR (w:World) (v:Value) (G:Nat->Prop) (l:List ByteArray):Prop where
 at_:zV w v G l
 nil:∀ n c,v=.slice none n c->n=0∧c=0
theorem yR.chg {S:Nat->Prop} {w w':World} {v:Value} {G:Nat->Prop} {l:List ByteArray} (h:yR w v G l) (hc:Chg S w w') (hs:∀ k,G k->¬ S k):yR w' v G l:=⟨h.at_.chg hc hs,h.nil⟩
theorem zV.up {w:World} {v:Value} {G G':Nat->Prop} {l:List ByteArray} (h:zV w v G l) (hg:∀ k,G k->G' k):zV w v G' l:=by
 obtain ⟨la,cap,h1,h2,h3⟩:=h;exact ⟨la,cap,h1,h2,fun j r hj=>by obtain ⟨lb,lo,q1,q2,q3⟩:=h3 j r hj;exact ⟨lb,lo,q1,hg _ q2,q3⟩⟩
theorem yR.up {w:World} {v:Value} {G G':Nat->Prop} {l:List ByteArray} (h:yR w v G l) (hg:∀ k,G k->G' k):yR w v G' l:=⟨h.at_.up hg,h.nil⟩
theorem yR.shape {w:World} {v:Value} {G:Nat->Prop} {l:List ByteArray} (h:yR w v G l):∃ a c,v=.slice a l.length c:=by
 obtain ⟨la,cap,e,_⟩:=h.at_;exact ⟨la,cap,e⟩
theorem yR.some {w:World} {a:Option Addr} {n c:Nat} {G:Nat->Prop} {l:List ByteArray} (h:yR w (.slice a n c) G l) (hn:0 < l.length):∃ g o,a=some ⟨g,o,none⟩∧G g:=by
 obtain ⟨la,cap,e,_,hc⟩:=h.at_;cases e;obtain ⟨g,o,e,q,_⟩:=hc 0 _ (zlz hn);exact ⟨g,o,e,q⟩
theorem xU {w:World} {la:Option Addr} {n cap:Nat} {G:Nat->Prop} {l:List ByteArray} (h:zV w (.slice la n cap) G l):∀ (j:Nat) u,(zO l)[j]? = some u->∃ g o,la=some ⟨g,o,none⟩∧w.cell? ⟨g,o+j,none⟩=some u:=by
 obtain ⟨la',cap',e,_,hc⟩:=h;cases e;intro j u hj;unfold zO at hj;rw [zlK] at hj;cases hq:l[j]? with
 | none=>rw [hq] at hj;cases hj
 | some x=>
  rw [hq] at hj;cases hj;obtain ⟨g,o,e1,_,c,_⟩:=hc j x hq;exact ⟨g,o,e1,c⟩
theorem ya {w:World} {base:Nat} {v:Value} {l:List ByteArray} (h:w.ownsRow base 29 1 v l.length (zO l)) (hs:∀ x∈l,x.size<=maxLen):yR w v (fun k=>v.ownBlock=Option.some k) l:=by
 refine ⟨?_,?_⟩
 ·obtain ⟨a,cap,rfl,h1,h2⟩:=YW h
  refine ⟨a,cap,rfl,h1,fun j x hj=>?_⟩;obtain ⟨g,rfl,hg,c⟩:=h2 j (.string x) (by unfold zO;rw [zlK,hj];rfl);exact ⟨g,0,rfl,rfl,by rw [Nat.zero_add];exact c,hs x (zlB hj)⟩
 ·intro n c e
  obtain ⟨_,⟨e2,_⟩ | ⟨g,cap,cur,e2,_⟩⟩:=h
  ·rw [e2] at e;cases e;exact ⟨rfl,rfl⟩
  ·rw [e2] at e;cases e
theorem Zm {s:List ByteArray} (h:xw s=true) {x:ByteArray} (hx:x∈s):ZZ x.data.toList=true:=by
 obtain ⟨j,hj⟩:=List.mem_iff_getElem?.1 hx;obtain ⟨_,_,h3⟩:=of_decide_eq_true h;have:=(h3 j (by rw [zU];exact (zlA.1 hj).1)).1;rwa [yp hj] at this
structure zF where
 kind:Int
 sg:Nat
 sp:ByteArray
 fr:List ByteArray
 f:Int
 t:Int
 n:Int
deriving DecidableEq
def XN (n:Int):Bool:=decide (0<=n∧n<=4611686018427387904)
def Zi (w:ByteArray) (ks:List Nat):Bool:=decide (zI w.data.toList=1) && decide (zL w.data.toList 0 / 8192∈ks)
def Yp (sp:ByteArray):ByteArray:=⟨(YV sp.data.toList 0 1 [0,1]).toArray⟩
def ZL (a:Nat):ByteArray:=⟨(Ze [a]).toArray⟩
def zeR (c:zF):Bool:=decide (2<=zI c.sp.data.toList) && (decide (∀ x∈c.fr,x=c.sp∨x=Yp c.sp) && (decide (c.sp∈c.fr) && decide (Yp c.sp∈c.fr)))
def Xl (c:zF):Bool:=
 if c.kind=6 then true
 else if c.kind=7 then zeR c
 else match c.fr with
  | [w]=>
   if c.kind=1 then Zi c.sp [1] && (decide (zI w.data.toList=2) && (decide (zL w.data.toList 0 / 8192=3) && decide (zL w.data.toList 1 / 8192=5)))
   else if c.kind=2 then Zi c.sp [1] && decide (w=ZL c.sg)
   else if c.kind=3 then Zi c.sp [2]
   else if c.kind=4 then Zi c.sp [3] && Zi w [4]
   else if c.kind=5 then Zi c.sp [1,2] && (decide (2<=zI w.data.toList) && decide (zL w.data.toList (zI w.data.toList - 1) / 8192=5))
   else false
  | _=>false
def zd9 (c:zF):Bool:=decide (c.sg / 8192=1) && (ZZ c.sp.data.toList && (xw c.fr && (XN c.f && (XN c.t && XN c.n))))
def Zj (c:zF):Bool:=decide (1<=c.kind∧c.kind<=7) && (zd9 c && (decide (c.f<=c.t) && (decide (∀ w∈c.fr,zI c.sp.data.toList<=zI w.data.toList) && Xl c)))
structure zjO (c:zF):Prop where
 k1:1<=c.kind
 k7:c.kind<=7
 sg:c.sg / 8192=1
 sp:ZZ c.sp.data.toList=true
 fr:xw c.fr=true
 f0:0<=c.f
 f1:c.f<=4611686018427387904
 t0:0<=c.t
 t1:c.t<=4611686018427387904
 n0:0<=c.n
 n1:c.n<=4611686018427387904
 ft:c.f<=c.t
 len:∀ w∈c.fr,zI c.sp.data.toList<=zI w.data.toList
theorem ZO {c:zF} (h:Zj c=true):zjO c:=by
 unfold Zj zd9 XN at h;simp only [zlU,decide_eq_true_eq] at h;obtain ⟨⟨h1,h2⟩,⟨h3,h4,h5,⟨h6,h7⟩,⟨h8,h9⟩,h10,h11⟩,h12,h13,_⟩:=h;exact ⟨h1,h2,h3,h4,h5,h6,h7,h8,h9,h10,h11,h12,h13⟩
theorem zig {a b c:Wd} (h:Zs a c=true) (k:Zs a b=false):Zs b c=true:=by
 cases q:Zs b a with
 | true=>exact ZH q h
 | false=>rw [<- Ya k q];exact h
theorem zfB {last:Option ByteArray} {l:List ByteArray} {k:Nat} {x:ByteArray} (hx:l[k]? = some x):Xw last (l.take (k+1))=zdO last (Xw last (l.take k)) x:=by
 unfold Xw;rw [zlR,hx,List.foldl_append];rfl
theorem zdV {last:Option ByteArray}:∀ (l:List ByteArray) (best:Option ByteArray),
  (∀ y,l.foldl (zdO last) best=some y->(best=some y∨(y∈l∧xf last y=true))∧(∀ x∈l,xf last x=true->ZY x y=false)∧∀ z,best=some z->ZY z y=false) ∧
  (l.foldl (zdO last) best=none->best=none∧∀ x∈l,xf last x=false)
 | [],best=>⟨fun y h=>⟨.inl h,fun _ hx=>(List.not_mem_nil hx).elim,fun z hz=>by rw [show best=some y from h] at hz;cases hz;exact ZF _⟩,fun h=>⟨h,fun _ hx=>(List.not_mem_nil hx).elim⟩⟩
 | a :: l,best=>by
  rw [List.foldl_cons];obtain ⟨h1,h2⟩:=zdV l (zdO last best a);by_cases hp:(xf last a && zep best a)=true
  ·have e:zdO last best a=some a:=if_pos hp
   rw [zlU] at hp;refine ⟨fun y hy=>?_,fun hn=>?_⟩
   ·obtain ⟨q1,q2,q3⟩:=h1 y hy
    have hay:=q3 a e;refine ⟨?_,fun x hx hax=>?_,fun z hz=>?_⟩
    ·rcases q1 with q | q
     ·rw [e] at q;cases q
      exact .inr ⟨List.mem_cons_self,hp.1⟩
     ·exact .inr ⟨List.mem_cons_of_mem _ q.1,q.2⟩
    ·rcases List.mem_cons.1 hx with rfl | hx
     ·exact hay
     ·exact q2 x hx hax
    ·subst hz
     have hb:ZY a z=true:=hp.2;rw [<- zlW];intro q;rw [show ZY a y=true from ZH hb q] at hay;cases hay
   ·have:=(h2 hn).1
    rw [e] at this;cases this
  ·have e:zdO last best a=best:=if_neg hp
   rw [e] at h1 h2 ⊢;refine ⟨fun y hy=>?_,fun hn=>?_⟩
   ·obtain ⟨q1,q2,q3⟩:=h1 y hy
    refine ⟨?_,fun x hx hax=>?_,q3⟩
    ·rcases q1 with q | q
     ·exact .inl q
     ·exact .inr ⟨List.mem_cons_of_mem _ q.1,q.2⟩
    ·rcases List.mem_cons.1 hx with rfl | hx
     ·cases best with
      | none=>exact (hp (by rw [hax];rfl)).elim
      | some z=>
       have hz:ZY x z=false:=by
        rw [<- zlW];intro q;exact hp (by rw [hax];exact q)
       have hzy:=q3 z rfl;rw [<- zlW];intro q;rw [show ZY z y=true from zig q hz] at hzy;cases hzy
     ·exact q2 x hx hax
   ·obtain ⟨q1,q2⟩:=h2 hn
    refine ⟨q1,fun x hx=>?_⟩;rcases List.mem_cons.1 hx with rfl | hx
    ·subst q1
     rw [<- zlW];intro q;exact hp (by rw [q];rfl)
    ·exact q2 x hx
theorem zfk (l:List ByteArray):yN l []:=⟨fun _ hx=>(List.not_mem_nil hx).elim,List.Pairwise.nil,fun _ _=>.inr rfl⟩
theorem yN.nodup {l out:List ByteArray} (h:yN l out):out.Nodup:=h.srt.imp (fun {a b} q e=>by subst e;rw [show ZY a a=false from ZF _] at q;cases q)
theorem yN.le {l out:List ByteArray} (h:yN l out):out.length<=l.length:=Xh h.nodup h.sub
theorem zhx {out:List ByteArray} {y:ByteArray} (hs:out.Pairwise fun a b=>ZY a b=true) (h:xf out.getLast? y=true):∀ x∈out,ZY x y=true:=by
 rcases List.eq_nil_or_concat out with rfl | ⟨i,z,rfl⟩
 ·intro x hx;cases hx
 ·rw [List.concat_eq_append] at *
  rw [List.getLast?_append] at h;have hz:ZY z y=true:=h;intro x hx;rcases zlL.1 hx with q | q
  ·exact ZH ((List.pairwise_append.1 hs).2.2 x q z (by simp)) hz
  ·rw [List.mem_singleton] at q;subst q;exact hz
theorem yN.next {l out:List ByteArray} (h:yN l out) {y:ByteArray} (hn:Xw out.getLast? l=some y):yN l (out++[y]):=by
 obtain ⟨q1,q2,_⟩:=(zdV l none).1 y hn
 have q:y∈l∧xf out.getLast? y=true:=by
  rcases q1 with q | q
  ·cases q
  ·exact q
 have ha:=zhx h.srt q.2;refine ⟨fun x hx=>?_,?_,fun x hx=>?_⟩
 ·rcases zlL.1 hx with e | e
  ·exact h.sub x e
  ·rw [List.mem_singleton] at e;rw [e];exact q.1
 ·rw [List.pairwise_append]
  exact ⟨h.srt,List.pairwise_singleton _ _,fun x hx z hz=>by rw [List.mem_singleton] at hz;rw [hz];exact ha x hx⟩
 ·rw [List.getLast?_append]
  rcases h.rest x hx with e | e
  ·exact .inl (List.mem_append_left _ e)
  ·have hxy:=q2 x hx e
   cases hyx:ZY y x with
   | true=>exact .inr hyx
   | false=>
    have:x=y:=by
     have:=Ya hxy hyx;cases x;cases y;simp only [ByteArray.mk.injEq];exact Array.toList_inj.1 this
    rw [this];exact .inl (by simp)
theorem yN.done {l out:List ByteArray} (h:yN l out) (hn:Xw out.getLast? l=none):∀ x∈l,x∈out:=by
 intro x hx;rcases h.rest x hx with e | e
 ·exact e
 ·rw [((zdV l none).2 hn).2 x hx] at e;cases e
theorem yN.more {l out:List ByteArray} (h:yN l out) {y:ByteArray} (hn:Xw out.getLast? l=some y):out.length < l.length:=by
 have:=(h.next hn).le;rw [zlC,List.length_singleton] at this;omega
theorem zer (l:List Nat) (a:Nat):yM (l++[a])=yM l++[.int .u16 (a:Int)]:=by unfold yM;rw [List.map_append];rfl
theorem zi9 (x y:Nat) (hx:x < 256) (hy:y < 256):IntKind.u16.wrap (IntKind.u16.wrap (IntKind.u16.wrap (x:Int)*256)+IntKind.u16.wrap (y:Int))=((x*256+y:Nat):Int):=by
 have e1:IntKind.u16.wrap (x:Int)=(x:Int):=by show (x:Int) % 65536=_;omega
 have e2:IntKind.u16.wrap (y:Int)=(y:Int):=by show (y:Int) % 65536=_;omega
 have e3:IntKind.u16.wrap ((x:Int)*256)=(x:Int)*256:=by show ((x:Int)*256) % 65536=_;omega
 rw [e1,e2,e3];show ((x:Int)*256+(y:Int)) % 65536=_;omega
theorem zdi (s:ByteArray) (k:Nat) (hk:2*k+1 < s.size) (h0:2*k < s.size):zL s.data.toList k=(s[2*k]'h0).toNat*256+(s[2*k+1]'hk).toNat:=by
 have hsl:=zz s;unfold zL;rw [zlF,zlz (by omega),zlF,zlz (by omega)];rfl
set_option maxHeartbeats 1000000 in
set_option maxRecDepth 100000 in
theorem xn (w:World) (s:ByteArray) (hs:s.size<=140737488355328):
  Calls Tryz.prog 237 #[.string s] w fun e w'=>∃ v,e=.returned v∧w'.ownsRow w.heap.size 58 1 v (ZP s.data.toList).length (yM (ZP s.data.toList))∧Chg (fun _=>False) w w':=by
 have hsl:=zz s;have HN:=zf (show zI s.data.toList=s.size / 2 by unfold zI;rw [hsl]);have TK:=zf (fun k hk=>zaV s.data.toList (i:=k) hk);have AL:=zf (Zy s.data.toList);have AV:=zf (fun k hk h0=>zdi s k hk h0);clear hsl;go_enter Tryz.func237,Tryz.ntmps237;go_wp2;go_loopw [3,4] (fun lv iv wr=>∃ k:Nat,2*k<=s.size∧iv=.int .i64 ((2*k:Nat):Int)∧wr.ownsRow w.heap.size 58 1 lv k (yM ((ZP s.data.toList).take k))∧Chg (fun _=>False) w wr) (fun _ iv _=>s.size - (intOf iv).toNat)
 case atStart=>exact ⟨0,by omega,rfl,yX _ _ _ _ (zlS _),zi _ _ _⟩
 case round=>
  obtain ⟨k,hk,rfl,ho,hc⟩:=hrel;have HO:=zf ho;have HC:=zf hc;have hsz:=hc.size;clear ho hc;obtain ⟨i0,hi0⟩:∃ i0:Nat,2*k=i0:=⟨_,rfl⟩;by_cases hlt:i0+1 < s.size
  ·have TK1:=zf (TK.out k (by rw [HN.out];omega))
   have hav:=AV.out k (by omega) (by omega);obtain ⟨x,hx,qx⟩:∃ x,x < 256∧(s[i0]'(Nat.lt_of_succ_lt hlt)).toNat=x:=⟨_,UInt8.toNat_lt _,rfl⟩;obtain ⟨y,hy,qy⟩:∃ y,y < 256∧(s[i0+1]'hlt).toNat=y:=⟨_,UInt8.toNat_lt _,rfl⟩;have HAV:=zf (show zL s.data.toList k=x*256+y by rw [hav,<- qx,<- qy];simp only [hi0]);have HI0:=zf hi0;rw [hi0];clear hav hi0;have SUM:=zf (zi9 x y hx hy);have a2:IntKind.i64.wrap ((i0:Int)+1)=(i0:Int)+1:=by rw [IntKind.wrap_i64];omega
   have b1:0<=(i0:Int):=by omega
   have b2:(i0:Int) < (s.size:Int):=by omega
   have b3:0<=(i0:Int)+1:=by omega
   have b4:(i0:Int)+1 < (s.size:Int):=by omega
   have t2:((i0:Int)+1).toNat=i0+1:=by omega
   go_wp2;refine zC (N:=28) [.rd [0,1,2,3,4,5,6,7,8,9,10,11],.ef 12,.ef 13,.rd [14]] (fun _=>True) (by kernel_rfl) (by kernel_rfl) (by kernel_rfl) (by kernel_rfl) (Nat.le_of_ble_eq_true rfl) trivial ?_;refine zJ (A:=?A1) ?h1 ?h2
   case h1=>
    intro w' hS K hK;clear hS;simp only [zS,zls,zlt,zlu,zlv,zlw]
    repeat still_step
    refine wpStill_nil ?_;exact hK
   rw [SUM.out,<- HAV.out];clear a2 b1 b2 b3 b4 t2;have hk2:(k+1)*2<=140737488355328:=by have:=HI0.out;omega
   generalize zL s.data.toList k=ak at *;refine zQ rfl ?_;go_wp2_with fail;refine ⟨trivial,?_⟩;refine zQ rfl ?_;refine zdx rfl (.tmp 13) (.tmp 25) 92 rfl 58 1 2 Tryz.underlying92 Tryz.elemAtom w.heap.size _ _ _ rfl ((zo HO.out (zy (fun _=>False) wr) (fun _ _ e=>e)).alloc _) _ [.int .u16 (ak:Int)] 58 (0,0) rfl (zh _ _) rfl (by intro u hu;simp at hu;subst hu;rfl) (by omega) (by unfold maxLen;omega) (by simp;omega) ?_;intro v5 w5 o5 g5;have C5:=zf (((HC.out.drew).alloc (.cells #[.int .u16 (ak:Int)] 58)).own ((zo HO.out (zy (fun _=>False) wr) (fun _ _ e=>e)).alloc _) (Chg.of_grown g5));rw [<- zer,<- TK1.out] at o5;have O5:=zf o5;clear o5 g5;go_wp2_with fail;refine ⟨trivial,?_⟩;refine zJ (A:=?A2) ?h3 ?h4
   case h3=>
    intro w' hS K hK;clear hS;simp only [zS,zls,zlt,zlu,zlv,zlw]
    repeat still_step
    refine wpStill_nil ?_;exact hK
   refine Za ?_;go_wp2;go_roundw
   case rel=>exact ⟨k+1,by have:=HI0.out;omega,by rw [show 2*(k+1)=i0+2 from by have:=HI0.out;omega];go_num,O5.out,C5.out⟩
   case measure=>simp [intOf];omega
  ·have HT:=zf (show (ZP s.data.toList).take k=ZP s.data.toList from List.take_of_length_le (by rw [AL.out,HN.out];omega))
   have HKL:=zf (show k=(ZP s.data.toList).length by rw [AL.out,HN.out];omega);rw [hi0];have hge:(s.size:Int)<=(i0:Int)+1:=by omega
   have hd1:decide ((i0:Int)+1 < (s.size:Int))=false:=by rw [decide_eq_false_iff_not];omega
   have hd2:decide (i0+1 < s.size)=false:=by rw [decide_eq_false_iff_not];omega
   have hi1:i0<=140737488355328:=by omega
   clear hi0;go_wp2;go_ret;refine ⟨_,rfl,?_,HC.out⟩;have:=HO.out;rw [HT.out,HKL.out] at this;exact this
set_option maxRecDepth 100000 in
theorem zbW (w:World) (s:ByteArray) (hs:s.size<=140737488355328):
  Calls Tryz.prog 169 #[.string s] w fun e w'=>e=.returned (.bool (ZZ s.data.toList))∧Chg (fun _=>False) w w':=by
 have hsl:=zz s;have ATO:=zf (xn w s hs);have AL:=zf (Zy s.data.toList);have AG:=zf (show ∀ i,i < zI s.data.toList->(yM (ZP s.data.toList))[i]? = some (.int .u16 (zL s.data.toList i:Nat)) from fun i hi=>by unfold yM;rw [zlK,yz _ hi];rfl);have MI:=zf (Zr s.data.toList);rw [hsl] at MI;have hn2:zI s.data.toList<=140737488355328:=by unfold zI;omega
 have MN:=zf (show ∀ i,i < zI s.data.toList->zL s.data.toList i=0->ZZ s.data.toList=false from fun i hi h=>zeM hi h);have ALT:=zf (fun k=>ye s.data.toList k);rw [AL.out] at ATO;clear hsl;generalize zI s.data.toList=n at *;go_enter Tryz.func169,Tryz.ntmps169;go_wp2_with fail;refine (ATO.out).mono ?_;rintro e w1 ⟨v1,rfl,o1,c1⟩;obtain ⟨ra,rc,rfl,hrl,hcl⟩:=YW o1;have HCL:=zf hcl;have C1:=zf c1;unfold maxLen at hrl;clear o1 c1 hcl;go_wp2;go_loop [4] (fun iv=>∃ k:Nat,k<=n∧iv=.int .i64 k∧Hid (∀ i,i < k->zL s.data.toList i≠0)) (fun iv=>n - (intOf iv).toNat)
 case atStart=>exact ⟨0,by omega,rfl,zf (fun i hi=>by omega)⟩
 case round=>
  obtain ⟨k,hk,rfl,HZ⟩:=hrel;by_cases hlt:k < n
  ·obtain ⟨g,rfl,_,cx⟩:=HCL.out k _ (AG.out k hlt)
   have hal:=ALT.out k;by_cases hz:zL s.data.toList k=0
   ·have HF:=zf (MN.out k hlt hz)
    rw [hz] at cx;clear hz;go_wp2;go_ret;exact ⟨by rw [HF.out];rfl,C1.out⟩
   ·have hz1:(((zL s.data.toList k:Nat):Int) == 0)=false:=by rw [zlI];omega
    have HZ2:=zf (show ∀ i,i < k+1->zL s.data.toList i≠0 from fun i hi=>by
     rcases Nat.lt_or_ge i k with q | q
     ·exact HZ.out i q
     ·obtain rfl:i=k:=by omega
      exact hz)
    clear hz;generalize zL s.data.toList k=ak at *;go_wp2;go_round
    case rel=>exact ⟨k+1,by omega,by go_num,HZ2⟩
    case measure=>simp [intOf];omega
  ·obtain rfl:k=n:=by omega
   have MB:=zf (show ZZ s.data.toList=(decide (s.size % 2=0) && decide (1<=k) && decide (k<=8)) by
    rw [Bool.eq_iff_iff,MI.out];simp only [zlU,decide_eq_true_eq];constructor
    ·rintro ⟨h1,h2,h3,_⟩;exact ⟨⟨h1,h2⟩,h3⟩
    ·rintro ⟨⟨h1,h2⟩,h3⟩;exact ⟨h1,h2,h3,HZ.out⟩)
   have hkd:decide (k < k)=false:=by simp
   clear HCL AG MN MI HZ hlt;by_cases h1:s.size % 2=0
   ·have g1:((s.size:Int) % 2 == 0)=true:=by rw [beq_iff_eq];omega
    by_cases h2:1<=k
    ·have g2:decide (1<=(k:Int))=true:=by rw [decide_eq_true_eq];omega
     by_cases h3:k<=8
     ·have g3:decide ((k:Int)<=8)=true:=by rw [decide_eq_true_eq];omega
      have R:=zf (show ZZ s.data.toList=true by rw [MB.out];simp [h1,h2,h3]);clear h1 MB;go_wp2;go_ret;exact ⟨by rw [R.out];rfl,C1.out⟩
     ·have g3:decide ((k:Int)<=8)=false:=by rw [decide_eq_false_iff_not];omega
      have R:=zf (show ZZ s.data.toList=false by rw [MB.out];simp [h3]);clear h1 MB;go_wp2;go_ret;exact ⟨by rw [R.out];rfl,C1.out⟩
    ·have g2:decide (1<=(k:Int))=false:=by rw [decide_eq_false_iff_not];omega
     have R:=zf (show ZZ s.data.toList=false by rw [MB.out];simp [h2]);clear h1 MB;go_wp2;go_ret;exact ⟨by rw [R.out];rfl,C1.out⟩
   ·have g1:((s.size:Int) % 2 == 0)=false:=by rw [zlI];omega
    have R:=zf (show ZZ s.data.toList=false by rw [MB.out];simp [h1]);clear h1 MB;go_wp2;go_ret;exact ⟨by rw [R.out];rfl,C1.out⟩
open Classical in
section
end
theorem YC {P:Program} {ops:Array Oper} {w:World} {Q:Exit->Act->World->Prop} {a:Act} {o:Oper} {rest:List Oper} (h:Region.wanted o (yielded ops a.tmps)=false) (h2:wpList P ops Q rest (a.put o.dst undef) w):wpList P ops Q (o :: rest) a w:=by
 unfold wpList;rw [if_neg (by rw [h];decide)];exact h2
theorem Chg.setRow {S:Nat->Prop} {a b:World} (h:Chg S a b) {g:Nat} (hp:g < a.heap.size->S g) (cs:Array Value):Chg S a (b.setRow g cs):=
 ⟨h.os,h.tape,h.output,by simpa [World.setRow] using h.size,fun k hk hs=>by
  rw [setRow_other _ _ _ _ (by rintro rfl;exact hs (hp hk))];exact h.block k hk hs⟩
theorem xu (l:List UInt8):∀ v∈zE l,v.oneCell'=true:=by
 intro v hv;simp [zE] at hv;obtain ⟨c,_,rfl⟩:=hv;rfl
theorem ZJ (l:List UInt8):(zE l).length=l.length:=by simp [zE]
theorem zbS {P:Program} (w:World) (dT ty elem:TypeId) (g o n c:Nat) (cur:List Value) (t:TypeId) (z:Value)
  (hu:P.underlying dT=some (.slice elem)) (hz:(zeroValue elem).run P w=.ok z w) (hz1:z.cells=#[z]) (hz2:z.oneCell'=true)
  (hg:w.heap[g]? = some (.cells cur.toArray t (0,0))) (hfit:o+n<=cur.length) (hn:0 < n):
  (Builtin.clear_ #[dT] ty #[.slice (some ⟨g,o,none⟩) n c]).run P w =
   .ok (.tuple #[]) (w.setRow g (splice cur o (xQ n z)).toArray):=by
 have hzc:Builtin.zeroCells z.cells n=(List.replicate n z).toArray:=by
  rw [hz1];unfold Builtin.zeroCells;apply Array.ext
  ·simp
  ·intro i h1 h2;simp at h1 h2 ⊢;simp [Nat.mod_one]
 have hst:=run_storeCells_at P g o t (List.replicate n z) 0 cur.toArray w hg (by simpa using hfit) (by intro v hv;rw [List.eq_of_mem_replicate hv];exact hz2);obtain ⟨m,rfl⟩:∃ m,n=m+1:=⟨n - 1,by omega⟩;simp [Builtin.clear_,run_underlying hu,hz,hzc,hst,splice,xQ]
theorem yQ {w:World} {g:Nat} {cur:Array Value} {t:TypeId} (hg:w.heap[g]? = some (.cells cur t (0,0))) (l:List Value):zbI g l t w (w.setRow g l.toArray):=
 ⟨setRow_heap w g cur _ t _ hg,Chg.setRow (S:=fun x=>x=g) (Chg.refl _ _) (fun _=>rfl) _⟩
theorem XI {P:Program} {w:World} {ops:Array Oper} {rest:List Oper} {o:Oper} {a:Act} {Q:Exit->Act->World->Prop} (hgd:o.guard=none) (d:Operand) (dT:TypeId)
  (ho:o.op=.call { callee:=.builtin .clear,args:=#[d],argTypes:=#[dT] }) (elem:TypeId) (hu:P.underlying dT=some (.slice elem))
  (z:Value) (hz:∀ w,(zeroValue elem).run P w=.ok z w) (hz1:z.cells=#[z]) (hz2:z.oneCell'=true)
  (g off n c:Nat) (hd:a.eval d=.slice (some ⟨g,off,none⟩) n c) (cur:List Value) (t:TypeId) (hg:w.heap[g]? = some (.cells cur.toArray t (0,0))) (hfit:off+n<=cur.length) (hn:0 < n)
  (h:∀ w',zbI g (splice cur off (xQ n z)) t w w'->wpList P ops Q rest (a.put o.dst (.tuple #[])) w'):wpList P ops Q (o :: rest) a w:=by
 refine wpList_plain hgd fun K hK=>?_;have hrun:=zbS (P:=P) w dT o.type elem g off n c cur t z hu (hz w) hz1 hz2 hg hfit hn;unfold Oper.wp;simp [execOp,ho,resolve,invoke,builtin,hd,hrun,Result.andThen];exact hK _ _ (h _ (yQ hg _))
theorem Xz {P:Program} (w:World) (s:ByteArray) (k:Nat):(Builtin.firstCells k s.size (.string s)).run P w=.ok (zE s.data.toList).toArray w:=by
 have e:(s.extract 0 s.size)=s:=by simp
 simp only [Builtin.firstCells,e];show Result.ok _ _=_
 congr 1
 apply Array.ext';simp [zE];intro _ _;rfl
theorem zaw {P:Program} (w:World) (dT sT ty elem:TypeId) (g o dLen dCap:Nat) (s:ByteArray) (cur:List Value) (t:TypeId)
  (hu:P.underlying dT=some (.slice elem)) (hs:(P.info? elem).map (·.size)=some 1)
  (hg:w.heap[g]? = some (.cells cur.toArray t (0,0))) (hle:s.size<=dLen) (hfit:o+s.size<=cur.length):
  (Builtin.copy_ #[dT,sT] ty #[.slice (some ⟨g,o,none⟩) dLen dCap,.string s]).run P w =
   .ok (goInt s.size) (w.setRow g (splice cur o (zE s.data.toList)).toArray):=by
 have hmin:Nat.min s.size dLen=s.size:=Nat.min_eq_left hle;have hl:(zE s.data.toList).length=s.size:=by rw [ZJ,Array.length_toList];rfl
 have hst:=run_storeCells_at P g o t (zE s.data.toList) 0 cur.toArray w hg (by rw [hl];simpa using hfit) (xu _);have hfc:=Xz (P:=P) w s 1;cases hq:P.info? elem with
 | none=>simp [hq] at hs
 | some i=>
  have hi:i.size=1:=by simpa [hq] using hs
  simp [Builtin.copy_,run_underlying hu,Builtin.lenOf,sizeOf,typeInfo,hq,hi,hmin,hfc,hst,splice]
theorem xT {P:Program} {w:World} {ops:Array Oper} {rest:List Oper} {o:Oper} {a:Act} {Q:Exit->Act->World->Prop} (hgd:o.guard=none) (d sO:Operand) (dT sT:TypeId)
  (ho:o.op=.call { callee:=.builtin .copy,args:=#[d,sO],argTypes:=#[dT,sT] }) (elem:TypeId) (hu:P.underlying dT=some (.slice elem)) (hsz:(P.info? elem).map (·.size)=some 1)
  (g off n c:Nat) (s:ByteArray) (hd:a.eval d=.slice (some ⟨g,off,none⟩) n c) (hs:a.eval sO=.string s) (cur:List Value) (t:TypeId) (hg:w.heap[g]? = some (.cells cur.toArray t (0,0))) (hle:s.size<=n) (hfit:off+s.size<=cur.length)
  (h:∀ w',zbI g (splice cur off (zE s.data.toList)) t w w'->wpList P ops Q rest (a.put o.dst (goInt s.size)) w'):wpList P ops Q (o :: rest) a w:=by
 refine wpList_plain hgd fun K hK=>?_;have hrun:=zaw (P:=P) w dT sT o.type elem g off n c s cur t hu hsz hg hle hfit;unfold Oper.wp;simp [execOp,ho,resolve,invoke,builtin,hd,hs,hrun,Result.andThen];exact hK _ _ (h _ (yQ hg _))
theorem zbR {P:Program} (w:World) (dT sT ty elem:TypeId) (sz g o dLen dCap g2 o2 sLen sCap:Nat) (cur src:List Value) (t t2:TypeId) (fz:Nat × Nat)
  (hu:P.underlying dT=some (.slice elem)) (hs:(P.info? elem).map (·.size)=some sz)
  (hg:w.heap[g]? = some (.cells cur.toArray t (0,0))) (hg2:w.heap[g2]? = some (.cells src.toArray t2 fz)) (h1:∀ v∈src,v.oneCell'=true)
  (hfit:o+Nat.min sLen dLen*sz<=cur.length) (hfit2:o2+Nat.min sLen dLen*sz<=src.length):
  (Builtin.copy_ #[dT,sT] ty #[.slice (some ⟨g,o,none⟩) dLen dCap,.slice (some ⟨g2,o2,none⟩) sLen sCap]).run P w =
   .ok (goInt (Nat.min sLen dLen)) (w.setRow g (splice cur o ((src.drop o2).take (Nat.min sLen dLen*sz))).toArray):=by
 have hcl:((src.drop o2).take (Nat.min sLen dLen*sz)).length=Nat.min sLen dLen*sz:=by simp;omega
 have hl:=run_loadCells_list (P:=P) w ⟨g2,o2,none⟩ ((src.drop o2).take (Nat.min sLen dLen*sz)) (fun j v hj=>by
  rw [yj];refine zg hg2 ?_;rw [List.getElem?_take] at hj;split at hj
  ·simpa using hj
  ·cases hj)
 have hst:=run_storeCells_at P g o t ((src.drop o2).take (Nat.min sLen dLen*sz)) 0 cur.toArray w hg (by rw [hcl];simpa using hfit)
  (fun v hv=>h1 v (List.mem_of_mem_drop (List.mem_of_mem_take hv)))
 rw [hcl] at hl;cases hq:P.info? elem with
 | none=>simp [hq] at hs
 | some i=>
  have hi:i.size=sz:=by simpa [hq] using hs
  simp only [Builtin.copy_,Builtin.lenOf,Builtin.firstCells,sizeOf,typeInfo];simp [run_underlying hu,hq,hi,hl,hst,splice]
theorem XZ {P:Program} {w:World} {ops:Array Oper} {rest:List Oper} {o:Oper} {a:Act} {Q:Exit->Act->World->Prop} (hgd:o.guard=none) (d s:Operand) (dT sT:TypeId)
  (ho:o.op=.call { callee:=.builtin .copy,args:=#[d,s],argTypes:=#[dT,sT] }) (elem:TypeId) (hu:P.underlying dT=some (.slice elem)) (sz:Nat) (hsz:(P.info? elem).map (·.size)=some sz)
  (g off dLen dCap g2 o2 sLen sCap:Nat) (hd:a.eval d=.slice (some ⟨g,off,none⟩) dLen dCap) (hs:a.eval s=.slice (some ⟨g2,o2,none⟩) sLen sCap)
  (cur src:List Value) (t t2:TypeId) (fz:Nat × Nat) (hg:w.heap[g]? = some (.cells cur.toArray t (0,0))) (hg2:w.heap[g2]? = some (.cells src.toArray t2 fz)) (h1:∀ v∈src,v.oneCell'=true)
  (hfit:off+Nat.min sLen dLen*sz<=cur.length) (hfit2:o2+Nat.min sLen dLen*sz<=src.length)
  (h:∀ w',zbI g (splice cur off ((src.drop o2).take (Nat.min sLen dLen*sz))) t w w'->wpList P ops Q rest (a.put o.dst (goInt (Nat.min sLen dLen))) w'):wpList P ops Q (o :: rest) a w:=by
 refine wpList_plain hgd fun K hK=>?_;have hrun:=zbR (P:=P) w dT sT o.type elem sz g off dLen dCap g2 o2 sLen sCap cur src t t2 fz hu hsz hg hg2 h1 hfit hfit2;unfold Oper.wp;simp only [execOp,ho,resolve,invoke,builtin];simp [hd,hs,hrun,Result.andThen];exact hK _ _ (h _ (yQ hg _))
theorem zka {w:World} {base:Nat} {e:TypeId} {size:Nat} {v:Value} {n:Nat} {xs:List Value} (h:w.ownsRow base e size v n xs):∀ k,v.ownBlock=some k->base<=k∧k < w.heap.size:=h.lt
theorem zav {P:Program} (w:World) (g o n:Nat) (t ty:TypeId) (cur:List Value) (fz:Nat × Nat) (d:TypeDesc) (hg:w.heap[g]? = some (.cells cur.toArray t fz))
  (hu:P.underlying ty=some d) (hd:(match d with | .struct _ | .array _ _=>true | _=>false)=true) (hi:(P.info? ty).map (·.size)=some n) (hfit:o+n<=cur.length):
  (loadVar ty ⟨g,o,none⟩).run P w=.ok (.agg ((cur.drop o).take n).toArray) w:=by
 have hcl:((cur.drop o).take n).length=n:=by simp;omega
 have hl:=run_loadCells_list (P:=P) w ⟨g,o,none⟩ ((cur.drop o).take n) (fun j v hj=>by
  rw [yj];refine zg hg ?_;rw [List.getElem?_take] at hj;split at hj
  ·simpa using hj
  ·cases hj)
 rw [hcl] at hl;cases hq:P.info? ty with
 | none=>simp [hq] at hi
 | some i=>
  have hin:i.size=n:=by simpa [hq] using hi
  cases d <;> simp at hd <;> simp [loadVar,isAgg,run_underlying hu,sizeOf,typeInfo,hq,hin,hl]
theorem YP {P:Program} {ops:Array Oper} {w:World} {Q:Act->Prop} {a:Act} {o:Oper} {rest:List Oper} (hgd:o.guard=none) (ty:TypeId) (x:Operand) (ho:o.op=.load ty x)
  (g off n:Nat) (hx:a.eval x=.pointer (some ⟨g,off,none⟩)) (t:TypeId) (cur:List Value) (fz:Nat × Nat) (d:TypeDesc) (hg:w.heap[g]? = some (.cells cur.toArray t fz))
  (hu:P.underlying ty=some d) (hd:(match d with | .struct _ | .array _ _=>true | _=>false)=true) (hi:(P.info? ty).map (·.size)=some n) (hfit:off+n<=cur.length)
  (h:wpStill P ops w Q rest (a.put o.dst (.agg ((cur.drop off).take n).toArray))):wpStill P ops w Q (o :: rest) a:=by
 have hw:Region.wanted o (yielded ops a.tmps)=true:=by simp [Region.wanted,hgd]
 unfold wpStill;rw [if_pos hw];unfold Oper.still execOp;simp only [ho,hx,Instr.loadAt,Instr.sureAddr,Sem.run_bind,Sem.run_pure,Result.andThen_ok,zav w g off n t ty cur fz d hg hu hd hi hfit];exact ⟨rfl,h⟩
theorem YQ {P:Program} {ops:Array Oper} {w:World} {Q:Exit->Act->World->Prop} {a:Act} {o:Oper} {rest:List Oper} (hgd:o.guard=none) (ty:TypeId) (x y:Operand) (ho:o.op=.store ty x y)
  (g off n:Nat) (hx:a.eval x=.pointer (some ⟨g,off,none⟩)) (new:List Value) (hy:a.eval y=.agg new.toArray) (t:TypeId) (cur:List Value) (hg:w.heap[g]? = some (.cells cur.toArray t (0,0)))
  (hi:(P.info? ty).map (·.size)=some n) (hn:new.length=n) (hfit:off+n<=cur.length) (h1:∀ v∈new,v.oneCell'=true)
  (h:∀ w',zbI g (splice cur off new) t w w'->wpList P ops Q rest (a.put o.dst undef) w'):wpList P ops Q (o :: rest) a w:=by
 refine wpList_plain hgd fun K hK=>?_;have hst:=run_storeCells_at P g off t new 0 cur.toArray w hg (by simpa [hn] using hfit) h1;have e:(w.setRow g ((cur.toArray.toList.take (off+0)++new++cur.toArray.toList.drop (off+0+new.length)).toArray))=w.setRow g (splice cur off new).toArray:=by simp [splice]
 rw [e] at hst;cases hq:P.info? ty with
 | none=>simp [hq] at hi
 | some i=>
  have hin:i.size=n:=by simpa [hq] using hi
  unfold Oper.wp execOp;simp [ho,hx,hy,Instr.storeAt,Instr.sureAddr,storeVar,Value.cells,sizeOf,typeInfo,hq,hin,hn,hst];exact hK _ _ (h _ (yQ hg _))
theorem Yd {P:Program} {w:World} {ops:Array Oper} {rest:List Oper} {o:Oper} {a:Act} {Q:Exit->Act->World->Prop} (hgd:o.guard=none) (sl x:Operand) (t u:TypeId)
  (ho:o.op=.call { callee:=.builtin .append,args:=#[sl,x],argTypes:=#[t,u] }) (e:TypeId) (ht:P.underlying t=some (.slice e)) (hu:P.underlying u=some .string)
  (hE:(P.info? e).map (fun i=>(i.zero,i.size,i.bytes))=some (some (.int .u8 0),1,1))
  (base:Nat) (v:Value) (n:Nat) (xs:List Value) (hs:a.eval sl=v) (hown:w.ownsRow base e 1 v n xs) (s:ByteArray) (hx:a.eval x=.string s)
  (h63:n+s.size<=140737488355328) (hbase:base<=w.heap.size)
  (h:∀ v' w',w'.ownsRow base e 1 v' (n+s.size) (xs++zE s.data.toList)->w.grownBy w' v.ownBlock->wpList P ops Q rest (a.put o.dst v') w'):wpList P ops Q (o :: rest) a w:=by
 obtain ⟨i,hi,q1,q2,q3⟩:=info_parts hE;exact Lib.wpList_append_own_string w hgd sl x t u ho base e i ht hu hi q1 q2 q3 v n xs hs hown s hx (by unfold maxLen;omega) h63 hbase (fun v' w' h2 h3 _=>h v' w' h2 h3)
theorem zgE {w:World} {base:Nat} {e:TypeId} {size:Nat} {v:Value} {n:Nat} {xs:List Value} (h:w.ownsRow base e size v n xs) (hn:0 < n):
  ∃ g cap,v=.slice (some ⟨g,0,none⟩) n cap∧base<=g∧n<=cap∧cap<=maxLen∧∀ j u,xs[j]? = some u->w.cell? ⟨g,j,none⟩=some u:=by
 obtain ⟨h1,h2 | ⟨g,cap,cur,rfl,hg,hh,q1,q2,q3,q4⟩⟩:=h
 ·omega
 ·refine ⟨g,cap,rfl,hg,q1,q2,fun j u hj=>zg hh ?_⟩
  rw [<- q4,List.getElem?_take] at hj;split at hj
  ·simpa using hj
  ·cases hj
end Go.Proofs.YtcilaocknhphnaaGreat


namespace Go.Proofs.YtcilaocknhphnaaGreat
open Go.RowKit Go.Maps
open Classical in
section
end
section
variable {P:Program} {ops:Array Oper} {Q:Exit->Act->World->Prop} {S:World->Prop} {L:Nat}
theorem zjb {i:Nat} {o:Oper} {K:Act->World->Prop} {a:Act} {w:World} (ho:ops[i]? = some o)
  (h:wpList P ops (xz Q K) [o] a w):wpOp P ops (NoPanic Q) i K a w:=by
 unfold wpOp;rw [ho];dsimp only;unfold wpList at h
 have hq:∀ e a w,e≠.normal->xz Q K e a w->NoPanic Q e a w:=by
  intro e a w he h;cases e <;> first | exact absurd rfl he | exact h | exact (h:False).elim
 split at h
 ·rename_i hw
  rw [if_pos hw];refine h.imp (fun h=>?_) (fun ⟨h1,a,w,h2⟩=>⟨h1,a,w,h2⟩);exact Oper.wp_mono (fun a w h=>h) (xS hq h)
 ·rename_i hw
  rw [if_neg hw];exact h
end
theorem ze6 (w:World) (s:ByteArray) (a n:Nat) (hs:s.size<=maxLen) (h:a+n<=zI s.data.toList):
  Calls Tryz.prog 359 #[.string s,.int .i64 a,.int .i64 n] w fun e w'=>e=.returned (.bool true)∧w=w':=by
 have LEN:=zf (fun w=>yf w s hs);have hl:zI s.data.toList<=4611686018427387904:=by unfold maxLen at hs;unfold zI;rw [zz];omega
 generalize zI s.data.toList=N at *;have g1:decide ((0:Int)<=(a:Int))=true:=by rw [decide_eq_true_eq];omega
 have g2:decide ((0:Int)<=(n:Int))=true:=by rw [decide_eq_true_eq];omega
 have g3:decide (a<=N)=true:=by rw [decide_eq_true_eq];omega
 have g4:decide ((n:Int)<=(N:Int) - (a:Int))=true:=by rw [decide_eq_true_eq];omega
 clear hs;go_enter Tryz.func359,Tryz.ntmps359;go_wp2_with fail;refine (LEN.out _).mono ?_;rintro e w' ⟨rfl,rfl⟩;go_wp2_with fail;refine (LEN.out _).mono ?_;rintro e w' ⟨rfl,rfl⟩;go_wp2;go_ret;exact ⟨rfl,rfl⟩
theorem zkx {a b:ByteArray} (h:a.data.toList=b.data.toList):a=b:=by
 cases a;cases b;simp at h;rw [h]
theorem zje (s v:ByteArray) (a n:Nat):s.extract 0 (2*a)++v++s.extract (2*(a+n)) s.size=⟨(YV s.data.toList a n v.data.toList).toArray⟩:=by
 apply zkx;unfold YV;simp only [ByteArray.data_append,ByteArray.data_extract,Array.toList_append,Array.toList_extract,List.extract_eq_take_drop,List.drop_zero,Nat.sub_zero];rw [List.take_of_length_le (l:=s.data.toList.drop (2*(a+n))) (by rw [List.length_drop,zz];omega)]
set_option maxRecDepth 100000 in
theorem zjd (w:World) (s v:ByteArray) (a n:Nat) (hs:s.size<=1000000) (hv:v.size<=1000000) (hs2:s.size % 2=0) (hv2:v.size % 2=0) (h:a+n<=zI s.data.toList) (h8:zI s.data.toList - n+zI v.data.toList<=8):
  Calls Tryz.prog 329 #[.string s,.int .i64 a,.int .i64 n,.string v] w fun e w'=>e=.returned (.tuple #[.string ⟨(YV s.data.toList a n v.data.toList).toArray⟩,.int .i64 0])∧Zo w w':=by
 have O1:=zf (zdz w s (by unfold maxLen;omega) hs2);have O2:=zf (zdz w v (by unfold maxLen;omega) hv2);have WI:=zf (ze6 w s a n (by unfold maxLen;omega) h);have L1:=zf (yf w s (by unfold maxLen;omega));have L2:=zf (yf w v (by unfold maxLen;omega));have hN:s.size=2*zI s.data.toList:=by unfold zI;rw [zz];omega
 have hM:v.size=2*zI v.data.toList:=by unfold zI;rw [zz];omega
 have EQ:=zf (zje s v a n);generalize zI s.data.toList=N at *;generalize zI v.data.toList=M at *;have g1:decide ((8:Int) < (N:Int) - (n:Int)+(M:Int))=false:=by rw [decide_eq_false_iff_not];omega
 go_enter Tryz.func329,Tryz.ntmps329;go_wp2_with fail;refine (O1.out).mono ?_;rintro e w' ⟨rfl,rfl⟩;go_wp2_with fail;refine (O2.out).mono ?_;rintro e w' ⟨rfl,rfl⟩;go_wp2_with fail;refine (WI.out).mono ?_;rintro e w' ⟨rfl,rfl⟩;go_wp2_with fail;refine (L1.out).mono ?_;rintro e w' ⟨rfl,rfl⟩;go_wp2_with fail;refine (L2.out).mono ?_;rintro e w' ⟨rfl,rfl⟩;go_wp2;have m1:IntKind.i64.wrap (2*(a:Int))=2*(a:Int):=by rw [IntKind.wrap_i64];omega
 have m2:IntKind.i64.wrap ((a:Int)+(n:Int))=(a:Int)+(n:Int):=by rw [IntKind.wrap_i64];omega
 have m3:IntKind.i64.wrap (2*((a:Int)+(n:Int)))=2*((a:Int)+(n:Int)):=by rw [IntKind.wrap_i64];omega
 have t1:(2*(a:Int)).toNat=2*a:=by omega
 have t2:(2*((a:Int)+(n:Int))).toNat=2*(a+n):=by omega
 have b1:0<=2*(a:Int):=by omega
 have b2:2*(a:Int)<=(s.size:Int):=by omega
 have b3:0<=2*((a:Int)+(n:Int)):=by omega
 have b4:2*((a:Int)+(n:Int))<=(s.size:Int):=by omega
 have z1:(s.extract 0 (2*a)).size<=1000000:=by rw [ByteArray.size_extract];omega
 have z2:(s.extract (2*(a+n)) s.size).size<=1000000:=by rw [ByteArray.size_extract];omega
 have z3:(s.extract 0 (2*a)++v).size<=2000000:=by rw [ByteArray.size_append];omega
 have y1:(s.extract 0 (2*a)).size+v.size<=9223372036854775807:=by omega
 have y2:(s.extract 0 (2*a)++v).size+(s.extract (2*(a+n)) s.size).size<=9223372036854775807:=by omega
 have y3:min (2*a) s.size+v.size<=9223372036854775807:=by omega
 have y4:min (2*a) s.size+v.size+(s.size - 2*(a+n))<=9223372036854775807:=by omega
 clear hN hM h h8 g1 hs hv hs2 hv2;go_quiet (fail);rename_i nq;go_wp2;go_ret2;exact ⟨congrArg (fun x=>Ending.returned (.tuple #[.string x,.int .i64 0])) EQ.out,nq,rfl⟩
abbrev za6:=ByteArray × ByteArray
def zkF (r:za6):Rul:=(r.1.data.toList,r.2.data.toList)
def zcj (w:World) (v:Value) (G:Nat->Prop) (R:List za6):Prop:=
 ∃ la cap,v=.slice la R.length cap∧R.length<=maxLen∧∀ (j:Nat) r,R[j]? = some r->∃ lb lo,la=some ⟨lb,lo,none⟩∧G lb∧w.cell? ⟨lb,lo+j*2,none⟩=some (.string r.1)∧w.cell? ⟨lb,lo+j*2+1,none⟩=some (.string r.2)∧r.1.size<=maxLen∧r.2.size<=maxLen
def zi1:ByteArray:=⟨#[]⟩
theorem Xk (z:Value) (n:Nat):madeCells #[z] n=(xQ n z).toArray:=by
 unfold madeCells xQ;apply Array.ext
 ·simp
 ·intro i h1 h2;simp [Nat.mod_one]
theorem Tryz.makeWords (w:World) (n:Nat) (hn:n<=1000):(Instr.makeSlice 31 (.int .i64 n) (.int .i64 n)).run Tryz.prog w=.ok (.slice (some ⟨w.heap.size,0,none⟩) n n) (w.alloc (.cells (xQ n (.string zi1)).toArray 29)):=by
 obtain ⟨i,hi,hz0,hz1,hz2⟩:=info_parts (show (Tryz.prog.info? 29).map (fun i=>(i.zero,i.size,i.bytes))=some (some (.string zi1),1,16) by kernel_rfl);have:=run_make (P:=Tryz.prog) w 31 29 i _ Tryz.underlying31 hi hz0 .i64 .i64 n n (by omega) (by omega) (by rw [hz2];omega) (by omega);rw [this,hz1];simp only [Int.toNat_natCast,Value.cells,Nat.mul_one];rw [Xk]
def zkC (R:List Rul) (w:Wd) (x:Int × Int):Prop:=0<=x.2∧x.2 < R.length∧zhi (zbc R x.2.toNat)=true∧0<=x.1∧x.1+zI (zbc R x.2.toNat).1<=zI w∧(w.drop (2*x.1.toNat)).take (zbc R x.2.toNat).1.length=(zbc R x.2.toNat).1
instance (R:List Rul) (w:Wd) (x:Int × Int):Decidable (zkC R w x):=by unfold zkC;infer_instance
end Go.Proofs.YtcilaocknhphnaaGreat
