/-
  Package word: Len, odd, At, May, each by a contract over the plain model. Package match: a machine where it lies: states, each with a map of atoms and a list of words; what its blocks are, and what each step of put leaves. Package match: what each step of put leaves of a machine. Package match: a state more. Package match: put. Package match: New. Sets of words: Less, May, Has, Equal, of the program and of the reference.
-/
import Derived.Test.YtcilaocknhphnaaGreatZrKit2
import Derived.Test.YtcilaocknhphnaaGreatZrRPlain
import Derived.Maps.Own
import Derived.Maps.OwnOps
import Derived.Maps.OwnSet
import Derived.Maps.Views
import Derived.WalkSpells
import Derived.Carry
namespace Go.Proofs.YtcilaocknhphnaaGreat
open Go.RowKit
theorem XZ (w:World) (s:ByteArray) (hs:s.size<=maxLen):
  Calls Tryz.prog 247 #[.string s] w fun e w'=>e=.returned (.int .i64 (zG s.data.toList:Nat))∧w=w':=by
 unfold maxLen at hs;have HE:=zf (show zG s.data.toList=s.size / 2 by unfold zG;rw [zt]);go_enter Tryz.func247,Tryz.ntmps247;go_wp2;go_ret;refine ⟨?_,rfl⟩;rw [HE.out];show Ending.returned (.int .i64 ((s.size:Int) / 2))=_
 congr 2
theorem zep (w:World) (s:ByteArray) (hs:s.size<=maxLen) (h:s.size % 2≠0):
  Calls Tryz.prog 246 #[.string s] w fun e w'=>e=.returned (.bool true)∧w=w':=by
 unfold maxLen at hs;have h1:((s.size:Int) % 2 != 0)=true:=by rw [zg6];omega
 clear h;go_enter Tryz.func246,Tryz.ntmps246;go_wp2;go_ret;exact ⟨rfl,rfl⟩
theorem zfu (w:World) (s:ByteArray) (hs:s.size<=maxLen) (h:s.size % 2=0):
  Calls Tryz.prog 246 #[.string s] w fun e w'=>e=.returned (.bool false)∧w=w':=by
 unfold maxLen at hs;have h1:((s.size:Int) % 2 != 0)=false:=by rw [zg7];omega
 clear h;go_enter Tryz.func246,Tryz.ntmps246;go_wp2;go_ret;exact ⟨rfl,rfl⟩
theorem zfZ (a c:Nat) (ha:a < 256) (hc:c < 256):bits BinOp.or IntKind.u16 ((a*256:Nat):Int) (c:Int)=((a*256+c:Nat):Int):=by
 have h1:(BitVec.ofInt 16 ((a*256:Nat):Int)).toNat=a*256:=by
  rw [BitVec.ofInt_natCast,BitVec.toNat_ofNat];exact Nat.mod_eq_of_lt (by omega)
 have h2:(BitVec.ofInt 16 (c:Int)).toNat=c:=by
  rw [BitVec.ofInt_natCast,BitVec.toNat_ofNat];exact Nat.mod_eq_of_lt (by omega)
 show IntKind.u16.wrap ((BitVec.ofInt 16 ((a*256:Nat):Int) ||| BitVec.ofInt 16 (c:Int)).toNat:Int)=_;rw [BitVec.toNat_or,h1,h2,nat_join 8 (a*256) c (by simp) (by omega)];show ((a*256+c:Nat):Int) % 65536=_;omega
theorem zfD (x y:Nat) (hx:x < 256) (hy:y < 256):bits BinOp.or IntKind.u16 (IntKind.u16.wrap (IntKind.u16.wrap (x:Int)*256)) (IntKind.u16.wrap (y:Int))=((x*256+y:Nat):Int):=by
 have e1:IntKind.u16.wrap (x:Int)=(x:Int):=by show (x:Int) % 65536=_;omega
 have e2:IntKind.u16.wrap (y:Int)=(y:Int):=by show (y:Int) % 65536=_;omega
 have e3:IntKind.u16.wrap ((x:Int)*256)=((x*256:Nat):Int):=by show ((x:Int)*256) % 65536=_;omega
 rw [e1,e2,e3,zfZ x y hx hy]
def zU (w w':World):Prop:=∃ n,w'=w.drewN n
theorem zU.refl (w:World):zU w w:=⟨0,rfl⟩
theorem zU.drew (w:World):zU w w.drew:=⟨1,rfl⟩
theorem zU.trans {a b c:World} (h:zU a b) (k:zU b c):zU a c:=by
 obtain ⟨n,rfl⟩:=h;obtain ⟨m,rfl⟩:=k;exact ⟨n+m,World.drewN_drewN _ _ _⟩
theorem zU.chg {S:Nat->Prop} {a b:World} (h:zU a b):Chg S a b:=by
 obtain ⟨n,rfl⟩:=h;exact (Chg.refl S a).drewN n
set_option maxRecDepth 100000 in
theorem zgm (w:World) (s:ByteArray) (k:Nat) (hs:s.size<=maxLen) (hk:k < zG s.data.toList):
  Calls Tryz.prog 248 #[.string s,.int .i64 k] w fun e w'=>e=.returned (.int .u16 (zC s.data.toList k:Nat))∧zU w w':=by
 have LEN:=zf (XZ w s hs);unfold maxLen at hs;have h2:2*k+1 < s.size:=by unfold zG at hk;rw [zt] at hk;omega
 obtain ⟨x,hx,qx⟩:∃ x,x < 256∧(s[2*k]'(by omega)).toNat=x:=⟨_,UInt8.toNat_lt _,rfl⟩;obtain ⟨y,hy,qy⟩:∃ y,y < 256∧(s[2*k+1]'(by omega)).toNat=y:=⟨_,UInt8.toNat_lt _,rfl⟩
 have HA:=zf (show zC s.data.toList k=x*256+y by
  have hsl:=zt s;unfold zC;rw [zgY,zgS (by omega),zgY,zgS (by omega),<- qx,<- qy];rfl)
 generalize zG s.data.toList=n at *;generalize zC s.data.toList k=av at *;have g0:decide ((k:Int) < 0)=false:=by rw [decide_eq_false_iff_not];omega
 have g1:decide (n<=k)=false:=by rw [decide_eq_false_iff_not];omega
 have a1:IntKind.i64.wrap (2*(k:Int))=2*(k:Int):=by rw [IntKind.wrap_i64];omega
 have a2:IntKind.i64.wrap (2*(k:Int)+1)=2*(k:Int)+1:=by rw [IntKind.wrap_i64];omega
 have b1:0<=2*(k:Int):=by omega
 have b2:2*(k:Int) < (s.size:Int):=by omega
 have b3:0<=2*(k:Int)+1:=by omega
 have b4:2*(k:Int)+1 < (s.size:Int):=by omega
 have t1:(2*(k:Int)).toNat=2*k:=by omega
 have t2:(2*(k:Int)+1).toNat=2*k+1:=by omega
 go_enter Tryz.func248,Tryz.ntmps248;go_wp2_with fail;refine (LEN.out).mono ?_;rintro e w' ⟨rfl,rfl⟩;go_wp2;refine Zh (by kernel_rfl) (by kernel_rfl) ?_
 repeat still_step
 refine wpStill_nil ?_;go_wp2;go_ret;refine ⟨?_,zU.drew _⟩;show Ending.returned (.int .u16 (bits BinOp.or IntKind.u16 (IntKind.u16.wrap (IntKind.u16.wrap (x:Int)*256)) (IntKind.u16.wrap (y:Int))))=_;rw [zfD x y hx hy,HA.out]
theorem zeU {l:List UInt8} (h:l.length % 2≠0):ZO l=false:=by
 rw [<- zhf,Zn];exact fun q=>h q.1
theorem zeT {l:List UInt8} (h:¬ (1<=zG l∧zG l<=8)):ZO l=false:=by
 rw [<- zhf,Zn];exact fun q=>h ⟨q.2.1,q.2.2.1⟩
theorem zcw {l:List UInt8} {i:Nat} (hi:i < zG l) (h:zC l i=0):ZO l=false:=by
 rw [<- zhf,Zn];exact fun q=>q.2.2.2 i hi h
theorem zfj (w:World) (s:ByteArray) (hs:s.size<=maxLen):
  Calls Tryz.prog 193 #[.string s] w fun e w'=>e=.returned (.bool (ZO s.data.toList))∧zU w w':=by
 have hsl:=zt s;have LEN:=zf (fun w=>XZ w s hs);by_cases ho:s.size % 2=0
 ·have ODD:=zf (zfu w s hs ho)
  by_cases hb:1<=zG s.data.toList∧zG s.data.toList<=8
  ·obtain ⟨hb1,hb2⟩:=hb
   have AT:=zf (fun w k hk=>zgm w s k hs hk);have MB:=zf (show ∀ n,n=zG s.data.toList->(∀ i,i < n->zC s.data.toList i≠0)->ZO s.data.toList=true from fun n hn h=>(Zn _).2 ⟨by rw [hsl];exact ho,hb1,hb2,fun i hi=>h i (by omega)⟩);have MN:=zf (show ∀ i,i < zG s.data.toList->zC s.data.toList i=0->ZO s.data.toList=false from fun i hi h=>zcw hi h);clear hs hsl ho;have HN:=zf (show zG s.data.toList=zG s.data.toList from rfl);generalize hn:zG s.data.toList=n at *;have NN:=zf hn;clear hn HN;have g1:decide ((n:Int) < 1)=false:=by rw [decide_eq_false_iff_not];omega
   have g2:decide (8 < (n:Int))=false:=by rw [decide_eq_false_iff_not];omega
   go_enter Tryz.func193,Tryz.ntmps193;go_wp2_with fail;refine (ODD.out).mono ?_;rintro e w' ⟨rfl,rfl⟩;go_wp2_with fail;refine (LEN.out _).mono ?_;rintro e w' ⟨rfl,rfl⟩;go_wp2_with fail;refine (LEN.out _).mono ?_;rintro e w' ⟨rfl,rfl⟩;go_wp2_with fail;refine (LEN.out _).mono ?_;rintro e w' ⟨rfl,rfl⟩;go_wp2;go_loopw [18] (fun i wr=>∃ k:Nat,k<=n∧i=.int .i64 k∧Hid (∀ i,i < k->zC s.data.toList i≠0)∧zU w wr) (fun i _=>n - (intOf i).toNat)
   case atStart=>exact ⟨0,by omega,rfl,zf (fun i hi=>by omega),zU.refl _⟩
   case round=>
    obtain ⟨k,hk,rfl,HZ,hc⟩:=hrel;have HC:=zf hc;clear hc;by_cases hlt:k < n
    ·go_wp2_with fail
     refine (AT.out wr k hlt).mono ?_;rintro e w1 ⟨rfl,c1⟩;have C1:=zf (HC.out.trans c1);clear c1;have hal:=zbB s.data.toList k;by_cases hz:zC s.data.toList k=0
     ·have HF:=zf (MN.out k hlt hz)
      rw [hz];go_wp2;go_ret;exact ⟨by rw [HF.out];rfl,C1.out⟩
     ·have hz1:(((zC s.data.toList k:Nat):Int) == 0)=false:=by rw [zg1];omega
      have HZ2:=zf (show ∀ i,i < k+1->zC s.data.toList i≠0 from fun i hi=>by
       rcases Nat.lt_or_ge i k with q | q
       ·exact HZ.out i q
       ·obtain rfl:i=k:=by omega
        exact hz)
      clear hz;generalize zC s.data.toList k=ak at *;go_wp2;go_roundw
      case rel=>exact ⟨k+1,by omega,by go_num,HZ2,C1.out⟩
      case measure=>simp [intOf];omega
    ·obtain rfl:k=n:=by omega
     have HT:=zf (MB.out k rfl HZ.out);go_wp2;go_ret;exact ⟨by rw [HT.out];rfl,HC.out⟩
  ·have HF:=zf (zeT hb)
   clear hs hsl ho;generalize zG s.data.toList=n at *;by_cases h1:n < 1
   ·clear hb
    go_enter Tryz.func193,Tryz.ntmps193;go_wp2_with fail;refine (ODD.out).mono ?_;rintro e w' ⟨rfl,rfl⟩;go_wp2_with fail;refine (LEN.out _).mono ?_;rintro e w' ⟨rfl,rfl⟩;go_wp2;go_ret;exact ⟨by rw [HF.out];rfl,zU.refl _⟩
   ·have h2:8 < n:=by omega
    have g1:decide ((n:Int) < 1)=false:=by rw [decide_eq_false_iff_not];omega
    have g2:decide (8 < (n:Int))=true:=by rw [decide_eq_true_eq];omega
    clear hb h1;go_enter Tryz.func193,Tryz.ntmps193;go_wp2_with fail;refine (ODD.out).mono ?_;rintro e w' ⟨rfl,rfl⟩;go_wp2_with fail;refine (LEN.out _).mono ?_;rintro e w' ⟨rfl,rfl⟩;go_wp2_with fail;refine (LEN.out _).mono ?_;rintro e w' ⟨rfl,rfl⟩;go_wp2;go_ret;exact ⟨by rw [HF.out];rfl,zU.refl _⟩
 ·have ODD:=zf (zep w s hs ho)
  have HF:=zf (zeU (l:=s.data.toList) (by rw [hsl];exact ho));clear hs hsl ho LEN;go_enter Tryz.func193,Tryz.ntmps193;go_wp2_with fail;refine (ODD.out).mono ?_;rintro e w' ⟨rfl,rfl⟩;go_wp2;go_ret;exact ⟨by rw [HF.out];rfl,zU.refl _⟩
theorem XY (w:World) (s:ByteArray) (hs:s.size<=maxLen):
  Calls Tryz.prog 193 #[.string s] w fun e w'=>e=.returned (.bool (ZO s.data.toList))∧Chg (fun _=>False) w w':=
 (zfj w s hs).mono fun _ _ ⟨he,hc⟩=>⟨he,hc.chg⟩
open Go.Maps
theorem Tryz.atomKeyed:Keyed Tryz.prog 58:=int_keyed Tryz.underlying58
theorem Tryz.zeroInt (w:World):(zeroValue 3).run Tryz.prog w=.ok (.int .i64 0) w:=by kernel_rfl
def zcD (a:Nat):Lit:=.int .u16 (a:Int)
theorem zef (a:Nat) (h:a < 65536):keyOf Tryz.prog 58 (.int .u16 (a:Int))=some (zcD a):=
 keyOf_int_mk Tryz.underlying58 (by simp only [Lit.wf,zhd,decide_eq_true_eq];exact ⟨by show (0:Int)<=_;omega,by show _<=(65535:Int);omega⟩)
theorem zfg {a b:Nat} (h:zcD a=zcD b):a=b:=by
 simp only [zcD,Lit.int.injEq,true_and] at h;omega
abbrev zgl (w:World) (bm n:Nat) (D:DataW Unit):Prop:=w.ownsMap Tryz.prog 58 (plainElem Tryz.prog 3) bm n D
def Zy (w:World) (base L:Nat) (mv:Value) (f:Nat->Option Nat):Prop:=
 (mv=.map none∧∀ a,a < 65536->f a=none) ∨
 ∃ bm n D,mv=.map (some bm)∧base<=bm∧zgl w bm n D∧n<=L∧∀ a,a < 65536->Maps.has D (zcD a)=(f a).isSome∧∀ j,f a=some j->D.atKey (zcD a) (.lit (.int .i64 0))=.lit (.int .i64 (j:Int))
def zam:Value->Option Nat
 | .map r=>r
 | _=>none
theorem Zy.chg {S:Nat->Prop} {w w':World} {base L:Nat} {mv:Value} {f:Nat->Option Nat} (h:Zy w base L mv f) (hc:Chg S w w') (hs:∀ k,zam mv=some k->¬ S k):Zy w' base L mv f:=by
 rcases h with h | ⟨bm,n,D,rfl,hb,⟨es,clock,hh,r⟩,q⟩
 ·exact .inl h
 ·exact .inr ⟨bm,n,D,rfl,hb,⟨es,clock,hc.obj (hs bm rfl) hh,r⟩,q⟩
theorem Zy.mono {w:World} {base L L':Nat} {mv:Value} {f:Nat->Option Nat} (h:Zy w base L mv f) (hl:L<=L'):Zy w base L' mv f:=by
 rcases h with h | ⟨bm,n,D,rfl,hb,hm,hn,q⟩
 ·exact .inl h
 ·exact .inr ⟨bm,n,D,rfl,hb,hm,by omega,q⟩
theorem Zy.look {w:World} {base L:Nat} {mv:Value} {f:Nat->Option Nat} (h:Zy w base L mv f) {a:Nat} (ha:a < 65536):
  ∃ c:Int,(Instr.lookup 547 mv (.int .u16 (a:Int)) true).run Tryz.prog w=.ok (.tuple #[.int .i64 c,.bool (f a).isSome]) w∧∀ j,f a=some j->c=(j:Int):=by
 rcases h with ⟨rfl,h⟩ | ⟨bm,n,D,rfl,hb,hown,hn,q⟩
 ·refine ⟨0,?_,fun j hj=>by rw [h a ha] at hj;cases hj⟩
  have:=Maps.look_nil (w:=w) true Tryz.atomKeyed Tryz.underlying547 (Tryz.zeroInt w) (zef a ha);rw [h a ha];exact this
 ·obtain ⟨q1,q2⟩:=q a ha
  obtain ⟨v,ps,hrun,hv⟩:=hown.look_ok Tryz.atomKeyed Tryz.underlying547 (Tryz.zeroInt w) (plainElem_int Tryz.underlying3 (by decide)) (zef a ha);obtain ⟨c,rfl,hc,hwc⟩:=plainElem_int_inv Tryz.underlying3 hv;rw [q1] at hrun;refine ⟨c,hrun,fun j hj=>?_⟩;have e:=congrArg Prod.fst hc;simp only at e;rw [q2 j hj] at e
  simpa using e.symm
def Zc (cs:List (Value × Value)):List Value:=cs.flatMap fun c=>[c.1,c.2]
theorem yz (cs:List (Value × Value)):(Zc cs).length=2*cs.length:=by
 induction cs with
 | nil=>rfl
 | cons c r ih=>simp [Zc] at ih ⊢;omega
theorem zcA (cs:List (Value × Value)):∀ k c,cs[k]? = some c->(Zc cs)[2*k]? = some c.1∧(Zc cs)[2*k+1]? = some c.2:=by
 induction cs with
 | nil=>intro k c h;simp at h
 | cons x r ih=>
  intro k c h;rcases k with _ | k
  ·simp at h;subst h;exact ⟨rfl,rfl⟩
  ·have:=ih k c (by simpa using h)
   show (x.1 :: x.2 :: Zc r)[2*(k+1)]? = _∧(x.1 :: x.2 :: Zc r)[2*(k+1)+1]? = _;rw [show 2*(k+1)=2*k+1+1 from by omega]
   simpa using this
theorem Xj (a b:List (Value × Value)):Zc (a++b)=Zc a++Zc b:=by unfold Zc;rw [List.flatMap_append]
theorem zdZ (cs:List (Value × Value)):∀ k c,cs[k]? = some c->∀ v,(Zc cs).set (2*k) v=Zc (cs.set k (v,c.2)):=by
 induction cs with
 | nil=>intro k c h;simp at h
 | cons x r ih=>
  intro k c h v;rcases k with _ | k
  ·simp at h;subst h;rfl
  ·have:=ih k c (by simpa using h) v
   show (x.1 :: x.2 :: Zc r).set (2*(k+1)) v=_;rw [show 2*(k+1)=2*k+1+1 from by omega];simp only [List.set_cons_succ,this];rfl
theorem zdY (cs:List (Value × Value)):∀ k c,cs[k]? = some c->∀ v,(Zc cs).set (2*k+1) v=Zc (cs.set k (c.1,v)):=by
 induction cs with
 | nil=>intro k c h;simp at h
 | cons x r ih=>
  intro k c h v;rcases k with _ | k
  ·simp at h;subst h;rfl
  ·have:=ih k c (by simpa using h) v
   show (x.1 :: x.2 :: Zc r).set (2*(k+1)+1) v=_;rw [show 2*(k+1)+1=2*k+1+1+1 from by omega];simp only [List.set_cons_succ,this];rfl
def zfH (l:List Nat):List Value:=l.map fun (n:Nat)=>.int .i64 (n:Int)
def zD:Value->Option Nat
 | .map r=>r
 | .slice (some a) _ _=>some a.block
 | _=>none
def YP (ps:List (List Nat)) (p:List Nat) (a:Nat):Option Nat:=if p++[a]∈ps then some (ps.idxOf (p++[a])) else none
structure MB where
 b:Nat
 g:Nat
 cap:Nat
 nw:Nat
structure zM (w:World) (base:Nat) (B:MB) (cs:List (Value × Value)) (ps:List (List Nat)) (wh:List Nat->List Nat):Prop where
 hb:w.heap[B.b]? = some (.cells #[.slice (some ⟨B.g,0,none⟩) cs.length B.cap,.int .i64 B.nw] 544 (0,0))
 hg:w.ownsRow base 549 2 (.slice (some ⟨B.g,0,none⟩) cs.length B.cap) cs.length (Zc cs)
 len:cs.length=ps.length
 em:∀ (k:Nat) p c,ps[k]? = some p->cs[k]? = some c->Zy w base ps.length c.1 (YP ps p)
 ew:∀ (k:Nat) p c,ps[k]? = some p->cs[k]? = some c->w.ownsRow base 3 1 c.2 (wh p).length (zfH (wh p))
 ap:∀ (i j x:Nat) u v,(Zc cs)[i]? = some u->(Zc cs)[j]? = some v->zD u=some x->zD v=some x->i=j
 ag:∀ (i:Nat) u,(Zc cs)[i]? = some u->zD u≠some B.g∧zD u≠some B.b
 bg:B.b≠B.g
 bb:base<=B.b
theorem ZP {v:Value} {k:Nat} (h:v.ownBlock=some k):zD v=some k:=by
 unfold Value.ownBlock at h;split at h
 ·exact h
 ·cases h
theorem ZQ {v:Value} {k:Nat} (h:zam v=some k):zD v=some k:=by
 unfold zam at h;split at h
 ·exact h
 ·cases h
theorem Zz {cs:List (Value × Value)} {k:Nat} {c:Value × Value} (h:cs[k]? = some c):(Zc cs)[2*k]? = some c.1:=(zcA cs k c h).1
theorem Yf {cs:List (Value × Value)} {k:Nat} {c:Value × Value} (h:cs[k]? = some c):(Zc cs)[2*k+1]? = some c.2:=(zcA cs k c h).2
section
variable {w w':World} {base:Nat} {B:MB} {cs:List (Value × Value)} {ps:List (List Nat)} {wh:List Nat->List Nat} {S:Nat->Prop}
theorem zM.emKept (h:zM w base B cs ps wh) (hc:Chg S w w') {i0:Nat} (hs:∀ (i:Nat) u x,(Zc cs)[i]? = some u->i≠i0->zD u=some x->¬ S x):
  ∀ (k:Nat) p c,ps[k]? = some p->cs[k]? = some c->2*k≠i0->Zy w' base ps.length c.1 (YP ps p):=fun k p c hp hcc hk=>
 (h.em k p c hp hcc).chg hc (fun x hx=>hs (2*k) c.1 x (Zz hcc) hk (ZQ hx))
theorem zM.ewKept (h:zM w base B cs ps wh) (hc:Chg S w w') {i0:Nat} (hs:∀ (i:Nat) u x,(Zc cs)[i]? = some u->i≠i0->zD u=some x->¬ S x):
  ∀ (k:Nat) p c,ps[k]? = some p->cs[k]? = some c->2*k+1≠i0->w'.ownsRow base 3 1 c.2 (wh p).length (zfH (wh p)):=fun k p c hp hcc hk=>
 zo (h.ew k p c hp hcc) hc (fun x hx=>hs (2*k+1) c.2 x (Yf hcc) hk (ZP hx))
theorem zM.chg (h:zM w base B cs ps wh) (hc:Chg (fun _=>False) w w'):zM w' base B cs ps wh:=
 ⟨hc.obj (fun e=>e) h.hb,zo h.hg hc (fun _ _ e=>e),h.len,fun k p c hp hcc=>(h.em k p c hp hcc).chg hc (fun _ _ e=>e),fun k p c hp hcc=>zo (h.ew k p c hp hcc) hc (fun _ _ e=>e),h.ap,h.ag,h.bg,h.bb⟩
theorem zM.gRow (h:zM w base B cs ps wh):∃ rest:List Value,w.heap[B.g]? = some (.cells (Zc cs++rest).toArray 549 (0,0))∧cs.length<=B.cap∧B.cap<=maxLen∧(Zc cs++rest).length=B.cap*2:=by
 obtain ⟨_,⟨e,_⟩ | ⟨g,cap,cur,e,hg,hh,q1,q2,q3,q4⟩⟩:=h.hg
 ·cases e
 ·cases e
  refine ⟨cur.toList.drop (cs.length*2),?_,q1,q2,?_⟩
  ·rw [hh,<- q4,zg5,Array.toArray_toList]
  ·rw [<- q4,zg5,Array.length_toList,q3]
theorem zM.mcell (h:zM w base B cs ps wh) {k:Nat} {c:Value × Value} (hk:cs[k]? = some c):w.cell? ⟨B.g,k*2,none⟩=some c.1∧w.cell? ⟨B.g,k*2+1,none⟩=some c.2:=by
 obtain ⟨rest,hh,_⟩:=h.gRow;have hl:k < cs.length:=(zgT.1 hk).1;have hfl:=yz cs;refine ⟨zg hh ?_,zg hh ?_⟩
 ·rw [zgN,List.getElem?_append_left (by omega),show k*2=2*k from by omega];exact Zz hk
 ·rw [zgN,List.getElem?_append_left (by omega),show k*2+1=2*k+1 from by omega];exact Yf hk
theorem zM.frz (h:zM w base B cs ps wh) (o:Nat):w.frozen? ⟨B.g,o,none⟩=false:=by
 obtain ⟨rest,hh,_⟩:=h.gRow;exact zn hh
theorem zM.glt (h:zM w base B cs ps wh):base<=B.g∧B.g < w.heap.size:=h.hg.lt B.g rfl
theorem zM.blt (h:zM w base B cs ps wh) {i:Nat} {u:Value} {x:Nat} (hi:(Zc cs)[i]? = some u) (hx:zD u=some x):base<=x∧x < w.heap.size:=by
 have hil:i < (Zc cs).length:=(zgT.1 hi).1;rw [yz] at hil;have hk:i / 2 < cs.length:=by omega
 obtain ⟨c,hc⟩:∃ c,cs[i / 2]? = some c:=⟨_,zgS hk⟩;obtain ⟨p,hp⟩:∃ p,ps[i / 2]? = some p:=⟨_,zgS (by rw [<- h.len];exact hk)⟩;rcases (by omega:i=2*(i / 2)∨i=2*(i / 2)+1) with e | e
 ·rw [e,Zz hc] at hi
  cases hi;rcases h.em _ p c hp hc with ⟨q,_⟩ | ⟨bm,n,D,q,hb,hown,_⟩
  ·rw [q] at hx;cases hx
  ·rw [q] at hx;cases hx;exact ⟨hb,hown.lt⟩
 ·rw [e,Yf hc] at hi
  cases hi;have ho:=h.ew _ p c hp hc;obtain ⟨a,cp,q⟩:=zq ho
  have:c.2.ownBlock=some x:=by
   rw [q] at hx ⊢;cases a with
   | none=>cases hx
   | some a=>exact hx
  exact ho.lt x this
theorem zM.rowSet (h:zM w base B cs ps wh) {o:Nat} {v:Value} {cs':List (Value × Value)} (hl:cs'.length=cs.length) (hf:(Zc cs).set o v=Zc cs'):
  (w.setCell ⟨B.g,o,none⟩ v).ownsRow base 549 2 (.slice (some ⟨B.g,0,none⟩) cs'.length B.cap) cs'.length (Zc cs'):=by
 obtain ⟨_,⟨e,_⟩ | ⟨g,cap,cur,e,hg,hh,q1,q2,q3,q4⟩⟩:=h.hg
 ·cases e
 ·cases e
  refine ⟨by rw [yz];omega,.inr ⟨B.g,B.cap,cur.setIfInBounds o v,rfl,hg,zk hh _,by omega,q2,by simpa using q3,?_⟩⟩;rw [hl,Array.toList_setIfInBounds,List.take_set,q4,hf]
theorem yR {cs cs':List (Value × Value)} {o:Nat} {v:Value} (hf:(Zc cs).set o v=Zc cs') {i:Nat} {u:Value} (hi:(Zc cs')[i]? = some u):(i=o∧u=v)∨(i≠o∧(Zc cs)[i]? = some u):=by
 rw [<- hf,List.getElem?_set] at hi;split at hi
 ·rename_i e
  split at hi
  ·cases hi;exact .inl ⟨e.symm,rfl⟩
  ·cases hi
 ·rename_i e
  exact .inr ⟨fun q=>e q.symm,hi⟩
theorem zfp (h:zM w base B cs ps wh) {cs':List (Value × Value)} {o:Nat} {v old:Value} (hf:(Zc cs).set o v=Zc cs') (ho:(Zc cs)[o]? = some old) (hv:zD v=zD old∨∀ x,zD v=some x->w.heap.size<=x):
  (∀ (i j x:Nat) u v,(Zc cs')[i]? = some u->(Zc cs')[j]? = some v->zD u=some x->zD v=some x->i=j)∧(∀ (i:Nat) u,(Zc cs')[i]? = some u->zD u≠some B.g∧zD u≠some B.b):=by
 have hb:=zl h.hb;have hg:=h.glt
 have key:∀ (j:Nat) u x,j≠o->(Zc cs)[j]? = some u->zD u=some x->zD v≠some x:=by
  intro j u x hj hu hx hvx;rcases hv with e | e
  ·exact hj (h.ap j o x u old hu ho hx (e ▸ hvx))
  ·have:=e x hvx;have:=(h.blt hu hx).2;omega
 constructor
 ·intro i j x u v' hi hj hu hv'
  rcases yR hf hi with ⟨rfl,rfl⟩ | ⟨n1,hi⟩ <;> rcases yR hf hj with ⟨rfl,rfl⟩ | ⟨n2,hj⟩
  ·rfl
  ·exact absurd hu (key j v' x n2 hj hv')
  ·exact absurd hv' (key i u x n1 hi hu)
  ·exact h.ap i j x u v' hi hj hu hv'
 ·intro i u hi
  rcases yR hf hi with ⟨rfl,rfl⟩ | ⟨_,hi⟩
  ·constructor
   ·intro e
    rcases hv with q | q
    ·exact (h.ag i old ho).1 (q ▸ e)
    ·have:=q _ e;omega
   ·intro e
    rcases hv with q | q
    ·exact (h.ag i old ho).2 (q ▸ e)
    ·have:=q _ e;omega
  ·exact h.ag i u hi
theorem Yc {cs:List (Value × Value)} {k i:Nat} {c x:Value × Value} (h:(cs.set k x)[i]? = some c):(i=k∧c=x)∨(i≠k∧cs[i]? = some c):=by
 rw [List.getElem?_set] at h;split at h
 ·rename_i e
  split at h
  ·cases h;exact .inl ⟨e.symm,rfl⟩
  ·cases h
 ·rename_i e
  exact .inr ⟨fun q=>e q.symm,h⟩
theorem zM.newMap (h:zM w base B cs ps wh) {k:Nat} {p:List Nat} {v:Value} (hp:ps[k]? = some p) (hk:cs[k]? = some (.map none,v)):
  zM ((w.alloc (.map #[] 0)).setCell ⟨B.g,k*2,none⟩ (.map (some w.heap.size))) base B (cs.set k (.map (some w.heap.size),v)) ps wh:=by
 have h1:=h.chg (zj (fun _=>False) w (.map #[] 0));have hf:=zdZ cs k _ hk (.map (some w.heap.size));rw [show 2*k=k*2 from by omega] at hf;have hc:Chg (·=B.g) (w.alloc (.map #[] 0)) ((w.alloc (.map #[] 0)).setCell ⟨B.g,k*2,none⟩ (.map (some w.heap.size))):=zy _ _ _ _;have hoth:∀ (i:Nat) u x,(Zc cs)[i]? = some u->i≠2*cs.length->zD u=some x->¬ x=B.g:=fun i u x hu _ hx e=>(h.ag i u hu).1 (e ▸ hx)
 have hlen:∀ i,cs[i]?≠none->2*i≠2*cs.length∧2*i+1≠2*cs.length:=fun i hi=>by
  have:i < cs.length:=by
   rcases Nat.lt_or_ge i cs.length with q | q
   ·exact q
   ·exact absurd (zg8 q) hi
  omega
 have hapx:=zfp h hf (by rw [show k*2=2*k from by omega];exact Zz hk) (.inr fun x hx=>by cases hx;exact zhb _);have hgl:=h.glt;have hkl:k < cs.length:=(zgT.1 hk).1;refine ⟨hc.obj h.bg (by rw [List.length_set];exact h1.hb),h1.rowSet (List.length_set ..) hf,by rw [List.length_set];exact h.len,?_,?_,hapx.1,hapx.2,h.bg,h.bb⟩
 ·intro i q c hq hci
  rcases Yc hci with ⟨rfl,rfl⟩ | ⟨hne,hci⟩
  ·obtain rfl:p=q:=by rw [hp] at hq;exact Option.some.inj hq
   have e0:=h.em i p _ hp hk;rcases e0 with ⟨_,hnone⟩ | ⟨bm,n,D,e,_⟩
   ·refine .inr ⟨w.heap.size,0,.map [],rfl,by omega,?_,by omega,fun a ha=>?_⟩
    ·exact World.ownsMap.setCell (World.ownsMap_made _ _ _ _) (by show w.heap.size≠B.g;omega) _
    ·rw [hnone a ha]
     exact ⟨rfl,fun j hj=>by cases hj⟩
   ·cases e
  ·exact h1.emKept hc hoth i q c hq hci (hlen i (by rw [hci];simp)).1
 ·intro i q c hq hci
  rcases Yc hci with ⟨rfl,rfl⟩ | ⟨hne,hci⟩
  ·exact h1.ewKept hc hoth i q (.map none,v) hq hk (hlen i (by rw [hk];simp)).2
  ·exact h1.ewKept hc hoth i q c hq hci (hlen i (by rw [hci];simp)).2
theorem zM.addWord (h:zM w base B cs ps wh) (hnd:ps.Nodup) {k which:Nat} {p:List Nat} {m v v':Value} (hp:ps[k]? = some p) (hk:cs[k]? = some (m,v))
  (ho:w'.ownsRow base 3 1 v' ((wh p).length+1) (zfH (wh p)++[.int .i64 (which:Int)])) (hg:w.grownBy w' v.ownBlock) (hs:Zd w v v'):
  zM (w'.setCell ⟨B.g,k*2+1,none⟩ v') base B (cs.set k (m,v')) ps (fun q=>if q=p then wh q++[which] else wh q):=by
 have hf:=zdY cs k _ hk v';rw [show 2*k+1=k*2+1 from by omega] at hf;have hfl:(Zc cs)[k*2+1]? = some v:=by rw [show k*2+1=2*k+1 from by omega];exact Yf hk
 obtain ⟨av,cv,ev⟩:=zq (h.ew k p _ hp hk);obtain ⟨av',cv',ev'⟩:=zq ho
 have bo:∀ u:Value,(∃ a n c,u=.slice a n c)->zD u=u.ownBlock:=by
  rintro u ⟨a,n,c,rfl⟩;cases a <;> rfl
 have bv:zD v=v.ownBlock:=bo v ⟨_,_,_,ev⟩;have bv':zD v'=v'.ownBlock:=bo v' ⟨_,_,_,ev'⟩;have hvg:v.ownBlock≠some B.g:=by rw [<- bv];exact (h.ag _ v hfl).1
 have hvb:v.ownBlock≠some B.b:=by rw [<- bv];exact (h.ag _ v hfl).2
 have c1:Chg (fun x=>v.ownBlock=some x) w w':=Chg.of_grown hg;have c2:Chg (·=B.g) w' (w'.setCell ⟨B.g,k*2+1,none⟩ v'):=zy _ _ _ _;have cc:Chg (fun x=>v.ownBlock=some x∨x=B.g) w (w'.setCell ⟨B.g,k*2+1,none⟩ v'):=(c1.mono (fun _ _ e=>.inl e)).trans (c2.mono (fun _ _ e=>.inr e))
 have hoth:∀ (i:Nat) u x,(Zc cs)[i]? = some u->i≠2*k+1->zD u=some x->¬ (v.ownBlock=some x∨x=B.g):=fun i u x hu hne hx e=>by
  rcases e with e | rfl
  ·rw [<- bv] at e
   exact hne (by have:=h.ap i (k*2+1) x u v hu hfl hx e;omega)
  ·exact (h.ag i u hu).1 hx
 have hapx:=zfp h hf hfl (by
  rcases hs with e | e
  ·exact .inl (by rw [bv,bv',e])
  ·exact .inr fun x hx=>e x (by rw [<- bv'];exact hx))
 have hrow:zM w base B cs ps wh:=h;have hg':w'.ownsRow base 549 2 (.slice (some ⟨B.g,0,none⟩) cs.length B.cap) cs.length (Zc cs):=zo h.hg c1 (fun x hx e=>hvg (by rw [e];exact hx.symm))
 have hrs:(w'.setCell ⟨B.g,k*2+1,none⟩ v').ownsRow base 549 2 (.slice (some ⟨B.g,0,none⟩) (cs.set k (m,v')).length B.cap) (cs.set k (m,v')).length (Zc (cs.set k (m,v'))):=by
  obtain ⟨_,⟨e,_⟩ | ⟨g,cap,cur,e,hgg,hh,q1,q2,q3,q4⟩⟩:=hg'
  ·cases e
  ·cases e
   refine ⟨by rw [yz];omega,.inr ⟨B.g,B.cap,cur.setIfInBounds (k*2+1) v',rfl,hgg,zk hh _,by rw [List.length_set];omega,q2,by simpa using q3,?_⟩⟩;rw [List.length_set,Array.toList_setIfInBounds,List.take_set,q4,hf]
 refine ⟨cc.obj (fun e=>by rcases e with e | e;exact hvb e;exact h.bg e) (by rw [List.length_set];exact h.hb),hrs,by rw [List.length_set];exact h.len,?_,?_,hapx.1,hapx.2,h.bg,h.bb⟩
 ·intro i q c hq hci
  rcases Yc hci with ⟨rfl,rfl⟩ | ⟨hne,hci⟩
  ·exact h.emKept cc hoth i q (m,v) hq hk (by omega)
  ·exact h.emKept cc hoth i q c hq hci (by omega)
 ·intro i q c hq hci
  rcases Yc hci with ⟨rfl,rfl⟩ | ⟨hne,hci⟩
  ·obtain rfl:p=q:=by rw [hp] at hq;exact Option.some.inj hq
   rw [if_pos rfl];have e:zfH (wh p++[which])=zfH (wh p)++[.int .i64 (which:Int)]:=by unfold zfH;rw [List.map_append];rfl
   rw [e,zgV];refine zo ho c2 (fun x hx e=>?_);subst e;rcases hs with q | q
   ·exact hvg (q ▸ hx)
   ·have:=q _ hx;have:=h.glt.2;omega
  ·have hqp:q≠p:=fun e=>hne (by
    subst e;exact (List.getElem?_inj (zgT.1 hq).1 hnd).1 (hq.trans hp.symm))
   rw [if_neg hqp];exact h.ewKept cc hoth i q c hq hci (by omega)
end
theorem zcn {p q:List Nat} {a b:Nat} (h:p++[a]=q++[b]):p=q∧a=b:=by
 have:=List.append_inj' h rfl;exact ⟨this.1,by simpa using this.2⟩
theorem zbs {ps:List (List Nat)} {q p:List Nat} {a:Nat} (h:p++[a]≠q):YP (ps++[q]) p a=YP ps p a:=by
 unfold YP;by_cases hm:p++[a]∈ps
 ·rw [if_pos hm,if_pos (List.mem_append_left _ hm),List.idxOf_append,if_pos hm]
 ·rw [if_neg hm,if_neg]
  rw [zg4,List.mem_singleton];rintro (e | e)
  ·exact hm e
  ·exact h e
theorem zd5 {ps:List (List Nat)} {p:List Nat} {a:Nat} (h:p++[a] ∉ ps):YP (ps++[p++[a]]) p a=some ps.length:=by
 unfold YP;rw [if_pos (by simp),List.idxOf_append,if_neg h];simp
theorem yy {cs:List (Value × Value)} {i:Nat} {u:Value} (h:(Zc (cs++[(.map none,.slice none 0 0)]))[i]? = some u):(Zc cs)[i]? = some u∨zD u=none:=by
 rw [Xj] at h;rcases Nat.lt_or_ge i (Zc cs).length with q | q
 ·rw [List.getElem?_append_left q] at h;exact .inl h
 ·rw [List.getElem?_append_right q] at h
  right;have:=zgU h;simp [Zc] at this;rcases this with rfl | rfl <;> rfl
theorem Yb {α:Type} {l:List α} {x c:α} {i:Nat} (h:(l++[x])[i]? = some c):(i < l.length∧l[i]? = some c)∨(i=l.length∧c=x):=by
 rcases Nat.lt_or_ge i l.length with q | q
 ·rw [List.getElem?_append_left q] at h;exact .inl ⟨q,h⟩
 ·rw [List.getElem?_append_right q] at h
  rcases Nat.eq_zero_or_pos (i - l.length) with e | e
  ·rw [e] at h;simp at h;exact .inr ⟨by omega,h.symm⟩
  ·rw [zg8 (by simp;omega)] at h;cases h
def zgv (D:DataW Unit) (f:Nat->Option Nat):Prop:=∀ a,a < 65536->Maps.has D (zcD a)=(f a).isSome∧∀ j,f a=some j->D.atKey (zcD a) (.lit (.int .i64 0))=.lit (.int .i64 (j:Int))
theorem zeC {w:World} {bm n:Nat} {D:DataW Unit} (hm:zgl w bm n D) {ps:List (List Nat)} {p:List Nat} {a:Nat} (h:zgv D (YP ps p)) (hn:p++[a] ∉ ps):
  zgv (D.put (zcD a) (.lit (.int .i64 ((ps.length:Nat):Int)))) (YP (ps++[p++[a]]) p):=by
 intro b hb;by_cases e:b=a
 ·subst e
  rw [zd5 hn,Maps.has_put_same hm.isMap (show WideAt.IsKeyLit (zcD b) from trivial)];refine ⟨rfl,fun j hj=>?_⟩;cases hj;exact Maps.atKey_put_same hm.isMap (show WideAt.IsKeyLit (zcD b) from trivial) _ _
 ·have hk:zcD b≠zcD a:=fun q=>e (zfg q)
  rw [zbs (fun q=>e (zcn q).2),Maps.has_put_other hk];refine ⟨(h b hb).1,fun j hj=>?_⟩;rw [Maps.atKey_put_other hk];exact (h b hb).2 j hj
theorem zM.addEdge {w w1 w3:World} {base:Nat} {B:MB} {cs:List (Value × Value)} {ps:List (List Nat)} {wh:List Nat->List Nat} (h:zM w base B cs ps wh) (ht:zdo ps) {k a bm n:Nat} {p:List Nat} {D:DataW Unit} {v v':Value} {X:Obj}
  (hp:ps[k]? = some p) (hk:cs[k]? = some (.map (some bm),v)) (hn:p++[a] ∉ ps) (hwh:wh (p++[a])=[]) (hm:zgl w bm n D) (hnl:n<=ps.length) (hsy:zgv D (YP ps p))
  (hm1:zgl w1 bm (n+1) (D.put (zcD a) (.lit (.int .i64 ((ps.length:Nat):Int))))) (g1:w.grownBy w1 (some bm))
  (o3:w3.ownsRow base 549 2 v' (cs.length+1) (Zc cs++[.map none,.slice none 0 0])) (g3:(w1.alloc X).grownBy w3 (some B.g)) (s3:Zd (w1.alloc X) (.slice (some ⟨B.g,0,none⟩) cs.length B.cap) v'):
  ∃ g' cap',v'=.slice (some ⟨g',0,none⟩) (cs.length+1) cap'∧zM (w3.setCell ⟨B.b,0,none⟩ v') base ⟨B.b,g',cap',B.nw⟩ (cs++[(.map none,.slice none 0 0)]) (ps++[p++[a]]) wh:=by
 have o3':=o3;obtain ⟨_,⟨_,e⟩ | ⟨g',cap',cur,rfl,hbg,hh,q1,q2,q3,q4⟩⟩:=o3
 ·omega
 refine ⟨g',cap',rfl,?_⟩;have hfk:(Zc cs)[2*k]? = some (.map (some bm)):=Zz hk;have hbm:=h.blt hfk rfl;have hbmg:bm≠B.g:=fun e=>(h.ag _ _ hfk).1 (by rw [<- e];rfl);have hbmb:bm≠B.b:=fun e=>(h.ag _ _ hfk).2 (by rw [<- e];rfl);have hbl:=zl h.hb;have hgl:=h.glt;have z1:=g1.size;have z2:(w1.alloc X).heap.size=w1.heap.size+1:=by simp
 have hg':g'=B.g∨w1.heap.size+1<=g':=by
  rcases s3 with e | e
  ·simp [Value.ownBlock] at e;exact .inl e
  ·have:=e g' rfl;exact .inr (by omega)
 have c1:Chg (fun x=>x=bm∨x=B.g∨x=B.b) w w1:=(Chg.of_grown g1).mono (fun x _ e=>.inl (Option.some.inj e).symm)
 have c3:Chg (fun x=>x=B.g∨x=B.b) w1 (w3.setCell ⟨B.b,0,none⟩ (.slice (some ⟨g',0,none⟩) (cs.length+1) cap')):=
  ((zj _ w1 X).trans ((Chg.of_grown g3).mono (fun x _ e=>.inl (Option.some.inj e).symm))).trans ((zy w3 B.b 0 _).mono (fun x _ e=>.inr e))
 have cc:=c1.trans (c3.mono (T:=fun x=>x=bm∨x=B.g∨x=B.b) (fun x _ e=>.inr e))
 have hoth:∀ (i:Nat) u x,(Zc cs)[i]? = some u->i≠2*k->zD u=some x->¬ (x=bm∨x=B.g∨x=B.b):=fun i u x hu hne hx e=>by
  rcases e with rfl | rfl | rfl
  ·exact hne (h.ap i (2*k) x u _ hu hfk hx rfl)
  ·exact (h.ag i u hu).1 hx
  ·exact (h.ag i u hu).2 hx
 have hb3:w3.heap[B.b]? = some (.cells #[.slice (some ⟨B.g,0,none⟩) cs.length B.cap,.int .i64 B.nw] 544 (0,0)):=by
  have e1:=(Chg.of_grown g1).obj (fun e=>hbmb (Option.some.inj e)) h.hb;exact (Chg.of_grown g3).obj (fun e=>h.bg (Option.some.inj e).symm) (Zg X e1)
 have bg':B.b≠g':=by rcases hg' with e | e;rw [e];exact h.bg;omega
 have hfl:Zc (cs++[(.map none,.slice none 0 0)])=Zc cs++[.map none,.slice none 0 0]:=by rw [Xj];rfl
 have hlc:(cs++[((.map none:Value),(.slice none 0 0:Value))]).length=cs.length+1:=by simp
 refine ⟨?_,?_,by simp [h.len],?_,?_,?_,?_,bg',h.bb⟩
 ·rw [hlc];exact (zk hb3 _).trans rfl
 ·rw [hlc,hfl]
  exact zo o3' (zy w3 B.b 0 _) (fun x hx e=>bg' (by simp [Value.ownBlock] at hx;omega))
 ·intro i q c hq hci
  rcases Yb hq with ⟨hil,hq0⟩ | ⟨hil,rfl⟩
  ·have hci:=((Yb hci).resolve_right (fun e=>by have:=h.len;have:=e.1;omega)).2
   clear hq;have hq:=hq0;by_cases hik:i=k
   ·subst hik
    obtain rfl:p=q:=by rw [hp] at hq;exact Option.some.inj hq
    rw [hk] at hci;cases hci;refine Zy.chg (w:=w1) (.inr ⟨bm,n+1,_,rfl,hbm.1,hm1,by simp;omega,zeC hm hsy hn⟩) c3 (fun x hx e=>?_);cases hx;rcases e with e | e
    ·exact hbmg e
    ·exact hbmb e
   ·have hqp:q≠p:=fun e=>hik (by
     subst e;exact (List.getElem?_inj hil ht.nodup).1 (hq.trans hp.symm))
    have:=h.emKept cc hoth i q c hq hci (by omega);have ef:YP (ps++[p++[a]]) q=YP ps q:=funext fun b=>zbs (fun e=>hqp (zcn e).1);rw [ef];exact this.mono (by simp)
  ·rcases Yb hci with ⟨hjl,_⟩ | ⟨_,rfl⟩
   ·have:=h.len;omega
   refine .inl ⟨rfl,fun b _=>?_⟩;unfold YP;rw [if_neg];rw [zg4,List.mem_singleton];rintro (e | e)
   ·exact hn (ht.down _ _ e)
   ·have:=congrArg List.length e;simp at this
 ·intro i q c hq hci
  rcases Yb hq with ⟨hil,hq⟩ | ⟨hil,rfl⟩
  ·have hci:=((Yb hci).resolve_right (fun e=>by have:=h.len;have:=e.1;omega)).2
   exact h.ewKept cc hoth i q c hq hci (by omega)
  ·rcases Yb hci with ⟨hjl,_⟩ | ⟨_,rfl⟩
   ·have:=h.len;omega
   rw [hwh];exact World.ownsRow_nil _ _ _ _
 ·intro i j x u v hi hj hu hv
  rcases yy hi with hi | e
  ·rcases yy hj with hj | e
   ·exact h.ap i j x u v hi hj hu hv
   ·rw [e] at hv;cases hv
  ·rw [e] at hu;cases hu
 ·intro i u hi
  rcases yy hi with hi | e
  ·refine ⟨fun e=>?_,(h.ag i u hi).2⟩
   rcases hg' with q | q
   ·exact (h.ag i u hi).1 (by rw [<- q];exact e)
   ·have:=(h.blt hi e).2
    have e:g' < w.heap.size:=this;omega
  ·rw [e];exact ⟨(fun q=>by cases q),(fun q=>by cases q)⟩
theorem Tryz.elemState:zP Tryz.prog 549 2 32:=zK (z:=.agg #[.map none,.slice none 0 0]) (by kernel_rfl) rfl (by decide)
theorem Tryz.elemInt:zP Tryz.prog 3 1 8:=zK (z:=.int .i64 0) (by kernel_rfl) rfl (by decide)
theorem Tryz.sizeInts:(Tryz.prog.info? 226).map (·.size)=some 1:=by kernel_rfl
def zB (w:World) (v:Value) (G:Nat->Prop) (l:List ByteArray):Prop:=
 ∃ la cap,v=.slice la l.length cap∧l.length<=maxLen∧∀ (j:Nat) x,l[j]? = some x->∃ lb lo,la=some ⟨lb,lo,none⟩∧G lb∧w.cell? ⟨lb,lo+j,none⟩=some (.string x)∧x.size<=maxLen
theorem zB.chg {S:Nat->Prop} {w w':World} {v:Value} {G:Nat->Prop} {l:List ByteArray} (h:zB w v G l) (hc:Chg S w w') (hs:∀ k,G k->¬ S k):zB w' v G l:=by
 obtain ⟨la,cap,h1,h2,h3⟩:=h;exact ⟨la,cap,h1,h2,fun j x hj=>by obtain ⟨lb,lo,q1,q2,q3,q4⟩:=h3 j x hj;exact ⟨lb,lo,q1,q2,zi hc (hs lb q2) q3,q4⟩⟩
def Zl (l:List ByteArray):List (List UInt8):=l.map fun s=>s.data.toList
theorem zbi (l:List ByteArray):(Zl l).length=l.length:=by simp [Zl]
def Ze (a b:Wd):Bool:=if a.length=b.length then Op.bytesLess a b else decide (a.length < b.length)
theorem zdq (w:World) (a b:ByteArray):
  Calls Tryz.prog 235 #[.string a,.string b] w fun e w'=>e=.returned (.bool (Ze a.data.toList b.data.toList))∧w=w':=by
 by_cases h:a.size=b.size
 ·have RES:=zf (show Ze a.data.toList b.data.toList=Op.bytesLess a.toList b.toList by
   unfold Ze;rw [zt,zt,if_pos h,ByteArray.toList_eq,ByteArray.toList_eq])
  have hne:((a.size:Int) != (b.size:Int))=false:=by rw [zg7];omega
  have hne2:((a.size:Int) == (b.size:Int))=true:=by rw [beq_iff_eq];omega
  clear h;go_enter Tryz.func235,Tryz.ntmps235;go_wp2;go_ret;exact ⟨by rw [RES.out];rfl,rfl⟩
 ·have RES:=zf (show Ze a.data.toList b.data.toList=decide (a.size < b.size) by
   unfold Ze;rw [zt,zt,if_neg h])
  have hne:((a.size:Int) != (b.size:Int))=true:=by rw [zg6];omega
  have hne2:((a.size:Int) == (b.size:Int))=false:=by rw [zg1];omega
  clear h;go_enter Tryz.func235,Tryz.ntmps235;go_wp2;go_ret;exact ⟨by rw [RES.out];rfl,rfl⟩
theorem zdN {a b:Wd} {i:Nat} {x y:UInt8} (hx:a[i]? = some x) (hy:b[i]? = some y):Op.bytesLess (a.drop i) (b.drop i)=if x=y then Op.bytesLess (a.drop (i+1)) (b.drop (i+1)) else decide (x.toNat < y.toNat):=by
 have ha:=(zgT.1 hx);have hb:=(zgT.1 hy);obtain ⟨ha1,ha2⟩:=ha;obtain ⟨hb1,hb2⟩:=hb;rw [List.drop_eq_getElem_cons ha1,List.drop_eq_getElem_cons hb1,ha2,hb2];show (decide (x < y) || (x == y && Op.bytesLess _ _))=_;by_cases h:x=y
 ·subst h
  rw [if_pos rfl];simp
 ·rw [if_neg h]
  rw [zg1.2 h,Bool.false_and,Bool.or_false];rfl
theorem zd9 {s:ByteArray} {i:Nat} (h:i < s.size):s.data.toList[i]? = some s[i]:=by
 rw [zgS (by rw [zt];exact h)];rfl
def XW (l:List Wd):Prop:=1<=l.length∧l.length<=16∧∀ j,j < l.length->ZO (l.getD j [])=true∧(0 < j->Ze (l.getD (j - 1) []) (l.getD j [])=true)
instance (l:List Wd):Decidable (XW l):=by unfold XW;infer_instance
def zbJ (l:List ByteArray):Bool:=decide (XW (Zl l))
theorem yr {l:List ByteArray} {j:Nat} {x:ByteArray} (h:l[j]? = some x):(Zl l).getD j []=x.data.toList:=by
 unfold Zl;rw [zgY,zg3,h];rfl
theorem zL (l:List ByteArray):(Zl l).length=l.length:=by unfold Zl;rw [zgW]
theorem zQ {w w':World} {p:Addr} {v:Value} (h:zU w w') (hc:w.cell? p=some v):w'.cell? p=some v:=by
 obtain ⟨n,rfl⟩:=h;exact hc
set_option maxHeartbeats 1000000 in
set_option maxRecDepth 100000 in
theorem YW (w:World) (v:Value) (G:Nat->Prop) (l:List ByteArray) (hv:zB w v G l):
  Calls Tryz.prog 165 #[v] w fun e w'=>e=.returned (.bool (zbJ l))∧zU w w':=by
 obtain ⟨la,cap,rfl,hl0,hcl⟩:=hv;have HCL:=zf hcl;unfold maxLen at hl0;clear hcl;have NO:=zf (show ∀ h:¬ XW (Zl l),zbJ l=false from fun h=>zgR h);by_cases h1:l.length < 1
 ·have R:=zf (NO.out (fun q=>by have:=q.1;rw [zL] at this;omega))
  have g1:decide ((l.length:Int) < 1)=true:=by rw [decide_eq_true_eq];omega
  go_enter Tryz.func165,Tryz.ntmps165;go_wp2;go_ret;exact ⟨by rw [R.out];rfl,zU.refl _⟩
 have g1:decide ((l.length:Int) < 1)=false:=by rw [decide_eq_false_iff_not];omega
 by_cases h2:16 < l.length
 ·have R:=zf (NO.out (fun q=>by have:=q.2.1;rw [zL] at this;omega))
  have g2:decide (16 < (l.length:Int))=true:=by rw [decide_eq_true_eq];omega
  go_enter Tryz.func165,Tryz.ntmps165;go_wp2;go_ret;exact ⟨by rw [R.out];rfl,zU.refl _⟩
 have g2:decide (16 < (l.length:Int))=false:=by rw [decide_eq_false_iff_not];omega
 go_enter Tryz.func165,Tryz.ntmps165;go_wp2;go_loopw [15] (fun iv wr=>∃ k:Nat,k<=l.length∧iv=.int .i64 k∧Hid ((∀ j,j < k->ZO ((Zl l).getD j [])=true∧(0 < j->Ze ((Zl l).getD (j - 1) []) ((Zl l).getD j [])=true))∧zU w wr)) (fun iv _=>l.length - (intOf iv).toNat)
 case atStart=>exact ⟨0,by omega,rfl,zf ⟨fun j hj=>by omega,zU.refl _⟩⟩
 case round=>
  obtain ⟨k,hk,rfl,HI⟩:=hrel;by_cases hlt:k < l.length
  ·obtain ⟨x,hx⟩:∃ x,l[k]? = some x:=⟨_,zgS hlt⟩
   obtain ⟨lb,lo,rfl,_,c0',hxm⟩:=HCL.out k x hx;have c0:=zQ HI.out.2 c0';have GX:=zf (yr hx);have DR:=zf HI.out.2;have PRE:=zf HI.out.1;have MA:=zf (zfj wr x hxm);clear c0' HI hx;cases hm:ZO x.data.toList with
   | false=>
    rw [hm] at MA;have R:=zf (NO.out (fun q=>by have:=(q.2.2 k (by rw [zL];exact hlt)).1;rw [GX.out,hm] at this;cases this));clear hm;go_wp2_with fail;(with_reducible refine MA.out.mono ?_);rintro e w1 ⟨rfl,d1⟩;go_wp2;go_ret;exact ⟨by rw [R.out];rfl,DR.out.trans d1⟩
   | true=>
    rw [hm] at MA;by_cases hk0:k=0
    ·have g3:decide (0 < (k:Int))=false:=by rw [decide_eq_false_iff_not];omega
     have g4:decide (0 < k)=false:=by rw [decide_eq_false_iff_not];omega
     have PR:=zf (show ∀ j,j < k+1->ZO ((Zl l).getD j [])=true∧(0 < j->Ze ((Zl l).getD (j - 1) []) ((Zl l).getD j [])=true) from fun j hj=>by
      obtain rfl:j=k:=by omega
      exact ⟨by rw [GX.out];exact hm,fun h=>by omega⟩)
     clear hm hk0;go_wp2_with fail;(with_reducible refine MA.out.mono ?_);rintro e w1 ⟨rfl,d1⟩;have D1:=zf (DR.out.trans d1);clear d1;go_wp2;go_roundw
     case rel=>exact ⟨k+1,by omega,by go_num,zf ⟨PR.out,D1.out⟩⟩
     case measure=>simp [intOf];omega
    ·obtain ⟨y,hy⟩:∃ y,l[k - 1]? = some y:=⟨_,zgS (by omega)⟩
     obtain ⟨lb',lo',e1,_,c1',hym⟩:=HCL.out (k - 1) y hy;cases e1;have GY:=zf (yr hy);obtain ⟨n,hn⟩:∃ n,n=k - 1:=⟨_,rfl⟩;rw [<- hn] at c1' GY;have c1:=zQ DR.out c1';have g3:decide (0 < (k:Int))=true:=by rw [decide_eq_true_eq];omega
     have g4:decide (0 < k)=true:=by rw [decide_eq_true_eq];omega
     have hnk:(k:Int) - 1=(n:Int):=by omega
     have hnl:n < l.length:=by omega
     have HN:=zf hn;have LS:=zf (fun w=>zdq w y x);have HM:=zf hm;clear hy hn c1' hm;cases hl:Ze y.data.toList x.data.toList with
     | false=>
      rw [hl] at LS;have R:=zf (NO.out (fun q=>by have:=(q.2.2 k (by rw [zL];exact hlt)).2 (by omega);rw [GX.out,<- HN.out,GY.out,hl] at this;cases this));clear hl;go_wp2_with fail;(with_reducible refine MA.out.mono ?_);rintro e w1 ⟨rfl,d1⟩;have c2:=zQ d1 c1;have D1:=zf (DR.out.trans d1);clear d1;go_wp2_with fail;(with_reducible refine (LS.out _).mono ?_);rintro e w2 ⟨rfl,rfl⟩;go_wp2;go_ret;exact ⟨by rw [R.out];rfl,D1.out⟩
     | true=>
      rw [hl] at LS
      have PR:=zf (show ∀ j,j < k+1->ZO ((Zl l).getD j [])=true∧(0 < j->Ze ((Zl l).getD (j - 1) []) ((Zl l).getD j [])=true) from fun j hj=>by
       rcases Nat.lt_or_ge j k with q | q
       ·exact PRE.out j q
       ·obtain rfl:j=k:=by omega
        exact ⟨by rw [GX.out];exact HM.out,fun _=>by rw [GX.out,<- HN.out,GY.out];exact hl⟩)
      clear hl;go_wp2_with fail;(with_reducible refine MA.out.mono ?_);rintro e w1 ⟨rfl,d1⟩;have c2:=zQ d1 c1;have D1:=zf (DR.out.trans d1);clear d1;go_wp2_with fail;(with_reducible refine (LS.out _).mono ?_);rintro e w2 ⟨rfl,rfl⟩;go_wp2;go_roundw
      case rel=>exact ⟨k+1,by omega,by go_num,zf ⟨PR.out,D1.out⟩⟩
      case measure=>simp [intOf];omega
  ·obtain rfl:k=l.length:=by omega
   have R:=zf (show zbJ l=true from zgQ ⟨by rw [zL];omega,by rw [zL];omega,fun j hj=>HI.out.1 j (by rw [zL] at hj;exact hj)⟩);go_wp2;go_ret;exact ⟨by rw [R.out];rfl,HI.out.2⟩
instance:LawfulBEq ByteArray where
 eq_of_beq {a b} h:=ByteArray.ext (eq_of_beq (show (a.data == b.data)=true from h))
 rfl {a}:=(beq_self_eq_true a.data:(a.data == a.data)=true)
theorem za5 (a b:ByteArray):(a.toList == b.toList)=decide (a=b):=by
 rw [ByteArray.toList_eq,ByteArray.toList_eq,Bool.eq_iff_iff,beq_iff_eq,decide_eq_true_eq];exact ⟨fun h=>ByteArray.ext (Array.ext' h),fun h=>by rw [h]⟩
theorem zcm (a b:ByteArray):(a.toList != b.toList)=!decide (a=b):=by unfold bne;rw [za5]
theorem zf3 {α:Type} [BEq α] [LawfulBEq α] {l:List α} {x:α} {k:Nat} (h:l[k]? = some x) (hn:∀ j,j < k->l[j]?≠some x):x∈l∧l.idxOf x=k:=by
 have hm:=zgU h;have h1:=List.idxOf_lt_length_of_mem hm;have h2:=List.getElem_idxOf h1;refine ⟨hm,?_⟩;rcases Nat.lt_trichotomy (l.idxOf x) k with q | q | q
 ·exact absurd (by rw [zgS h1,h2]) (hn _ q)
 ·exact q
 ·have hk:=(zgT.1 h).1
  have:=List.not_of_lt_findIdx (p:=(· == x)) q;rw [zgS hk] at h;rw [Option.some.inj h] at this;simp at this
theorem zcy {α:Type} {l:List α} {x:α} (hn:∀ j,j < l.length->l[j]?≠some x):x ∉ l:=by
 intro h;obtain ⟨j,hj⟩:=List.mem_iff_getElem?.1 h;exact hn j (zgT.1 hj).1 hj
def Xr (l m:List ByteArray):Bool:=decide (l=m)
theorem zdx {l m:List ByteArray} (hl:l.length=m.length) (h:∀ j,j < l.length->l[j]? = m[j]?):l=m:=by
 apply List.ext_getElem?;intro j;rcases Nat.lt_or_ge j l.length with q | q
 ·exact h j q
 ·rw [zg8 q,zg8 (by omega)]
end Go.Proofs.YtcilaocknhphnaaGreat
