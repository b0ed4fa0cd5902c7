/-
  Package word: Len, odd, At, May, each by a contract over the plain model. Package match: a machine where it lies: states, each with a map of atoms and a list of words; what its blocks are, and what each step of put leaves. Package match: what each step of put leaves of a machine. Package match: a state more. Package match: put. Package match: New.
-/
import Derived.Test.YthdfplafihmejaaGreatZtKit2
import Derived.Test.YthdfplafihmejaaGreatZtRPlain
import Derived.Maps.Own
import Derived.Maps.OwnOps
import Derived.Maps.OwnSet
import Derived.Maps.Views
import Derived.WalkSpells
import Derived.Carry
namespace Go.Proofs.YthdfplafihmejaaGreat
open Go.RowKit
theorem ZO (w:World) (s:ByteArray) (hs:s.size<=maxLen):
  Calls Tryz.prog 80 #[.string s] w fun e w'=>e=.returned (.int .i64 (zz s.data.toList:Nat))∧w=w':=by
 unfold maxLen at hs;have HE:=ze (show zz s.data.toList=s.size / 2 by unfold zz;rw [zA]);go_enter Tryz.func80,Tryz.ntmps80;go_wp2;go_ret;refine ⟨?_,rfl⟩;rw [HE.out];show Ending.returned (.int .i64 ((s.size:Int) / 2))=_
 congr 2
theorem znm (w:World) (s:ByteArray) (hs:s.size<=maxLen) (h:s.size % 2≠0):
  Calls Tryz.prog 79 #[.string s] w fun e w'=>e=.returned (.bool true)∧w=w':=by
 unfold maxLen at hs;have h1:((s.size:Int) % 2 != 0)=true:=by rw [zre];omega
 clear h;go_enter Tryz.func79,Tryz.ntmps79;go_wp2;go_ret;exact ⟨rfl,rfl⟩
theorem zfR (w:World) (s:ByteArray) (hs:s.size<=maxLen) (h:s.size % 2=0):
  Calls Tryz.prog 79 #[.string s] w fun e w'=>e=.returned (.bool false)∧w=w':=by
 unfold maxLen at hs;have h1:((s.size:Int) % 2 != 0)=false:=by rw [zrf];omega
 clear h;go_enter Tryz.func79,Tryz.ntmps79;go_wp2;go_ret;exact ⟨rfl,rfl⟩
theorem zqa (a c:Nat) (ha:a < 256) (hc:c < 256):bits BinOp.or IntKind.u16 ((a*256:Nat):Int) (c:Int)=((a*256+c:Nat):Int):=by
 have h1:(BitVec.ofInt 16 ((a*256:Nat):Int)).toNat=a*256:=by
  rw [BitVec.ofInt_natCast,BitVec.toNat_ofNat];exact Nat.mod_eq_of_lt (by omega)
 have h2:(BitVec.ofInt 16 (c:Int)).toNat=c:=by
  rw [BitVec.ofInt_natCast,BitVec.toNat_ofNat];exact Nat.mod_eq_of_lt (by omega)
 show IntKind.u16.wrap ((BitVec.ofInt 16 ((a*256:Nat):Int) ||| BitVec.ofInt 16 (c:Int)).toNat:Int)=_;rw [BitVec.toNat_or,h1,h2,nat_join 8 (a*256) c (by simp) (by omega)];show ((a*256+c:Nat):Int) % 65536=_;omega
theorem zpn (x y:Nat) (hx:x < 256) (hy:y < 256):bits BinOp.or IntKind.u16 (IntKind.u16.wrap (IntKind.u16.wrap (x:Int)*256)) (IntKind.u16.wrap (y:Int))=((x*256+y:Nat):Int):=by
 have e1:IntKind.u16.wrap (x:Int)=(x:Int):=by show (x:Int) % 65536=_;omega
 have e2:IntKind.u16.wrap (y:Int)=(y:Int):=by show (y:Int) % 65536=_;omega
 have e3:IntKind.u16.wrap ((x:Int)*256)=((x*256:Nat):Int):=by show ((x:Int)*256) % 65536=_;omega
 rw [e1,e2,e3,zqa x y hx hy]
def ZJ (w w':World):Prop:=∃ n,w'=w.drewN n
theorem ZJ.refl (w:World):ZJ w w:=⟨0,rfl⟩
theorem ZJ.drew (w:World):ZJ w w.drew:=⟨1,rfl⟩
theorem ZJ.trans {a b c:World} (h:ZJ a b) (k:ZJ b c):ZJ a c:=by
 obtain ⟨n,rfl⟩:=h;obtain ⟨m,rfl⟩:=k;exact ⟨n+m,World.drewN_drewN _ _ _⟩
theorem ZJ.chg {S:Nat->Prop} {a b:World} (h:ZJ a b):Chg S a b:=by
 obtain ⟨n,rfl⟩:=h;exact (Chg.refl S a).drewN n
theorem yK {P:Program} {f:FuncId} {args:Array Value} {w:World} {v:Value} (h:∀ n,Calls P f args (w.drewN n) fun e w'=>e=.returned v∧ZJ (w.drewN n) w') {n:Nat}:Calls P f args (w.drewN n) fun e w''=>e=.returned v∧∃ m,w''=w.drewN m:=
 (h n).mono fun _ _ ⟨he,m,hm⟩=>⟨he,n+m,by rw [hm,World.drewN_drewN]⟩
set_option maxRecDepth 100000 in
theorem zp3 (w:World) (s:ByteArray) (k:Nat) (hs:s.size<=maxLen) (hk:k < zz s.data.toList):
  Calls Tryz.prog 81 #[.string s,.int .i64 k] w fun e w'=>e=.returned (.int .u16 (zO s.data.toList k:Nat))∧ZJ w w':=by
 have LEN:=ze (ZO w s hs);unfold maxLen at hs;have h2:2*k+1 < s.size:=by unfold zz at hk;rw [zA] at hk;omega
 obtain ⟨x,hx,qx⟩:∃ x,x < 256∧(s[2*k]'(by omega)).toNat=x:=⟨_,UInt8.toNat_lt _,rfl⟩;obtain ⟨y,hy,qy⟩:∃ y,y < 256∧(s[2*k+1]'(by omega)).toNat=y:=⟨_,UInt8.toNat_lt _,rfl⟩
 have HA:=ze (show zO s.data.toList k=x*256+y by
  have hsl:=zA s;unfold zO;rw [zq6,zq0 (by omega),zq6,zq0 (by omega),<- qx,<- qy];rfl)
 generalize zz s.data.toList=n at *;generalize zO s.data.toList k=av at *;have g0:decide ((k:Int) < 0)=false:=by rw [decide_eq_false_iff_not];omega
 have g1:decide (n<=k)=false:=by rw [decide_eq_false_iff_not];omega
 have a1:IntKind.i64.wrap (2*(k:Int))=2*(k:Int):=by rw [IntKind.wrap_i64];omega
 have a2:IntKind.i64.wrap (2*(k:Int)+1)=2*(k:Int)+1:=by rw [IntKind.wrap_i64];omega
 have b1:0<=2*(k:Int):=by omega
 have b2:2*(k:Int) < (s.size:Int):=by omega
 have b3:0<=2*(k:Int)+1:=by omega
 have b4:2*(k:Int)+1 < (s.size:Int):=by omega
 have t1:(2*(k:Int)).toNat=2*k:=by omega
 have t2:(2*(k:Int)+1).toNat=2*k+1:=by omega
 go_enter Tryz.func81,Tryz.ntmps81;go_wp2_with fail;refine (LEN.out).mono ?_;rintro e w' ⟨rfl,rfl⟩;go_wp2;refine xS (by kernel_rfl) (by kernel_rfl) ?_
 repeat still_step
 refine wpStill_nil ?_;go_wp2;go_ret;refine ⟨?_,ZJ.drew _⟩;show Ending.returned (.int .u16 (bits BinOp.or IntKind.u16 (IntKind.u16.wrap (IntKind.u16.wrap (x:Int)*256)) (IntKind.u16.wrap (y:Int))))=_;rw [zpn x y hx hy,HA.out]
theorem znS {l:List UInt8} (h:l.length % 2≠0):Zp l=false:=by
 rw [<- zrn,Zh];exact fun q=>h q.1
theorem znR {l:List UInt8} (h:¬ (1<=zz l∧zz l<=8)):Zp l=false:=by
 rw [<- zrn,Zh];exact fun q=>h ⟨q.2.1,q.2.2.1⟩
theorem zjt {l:List UInt8} {i:Nat} (hi:i < zz l) (h:zO l i=0):Zp l=false:=by
 rw [<- zrn,Zh];exact fun q=>q.2.2.2 i hi h
theorem zi0 (w:World) (s:ByteArray) (hs:s.size<=maxLen):
  Calls Tryz.prog 49 #[.string s] w fun e w'=>e=.returned (.bool (Zp s.data.toList))∧ZJ w w':=by
 have hsl:=zA s;have LEN:=ze (fun w=>ZO w s hs);by_cases ho:s.size % 2=0
 ·have ODD:=ze (zfR w s hs ho)
  by_cases hb:1<=zz s.data.toList∧zz s.data.toList<=8
  ·obtain ⟨hb1,hb2⟩:=hb
   have AT:=ze (fun w k hk=>zp3 w s k hs hk);have MB:=ze (show ∀ n,n=zz s.data.toList->(∀ i,i < n->zO s.data.toList i≠0)->Zp s.data.toList=true from fun n hn h=>(Zh _).2 ⟨by rw [hsl];exact ho,hb1,hb2,fun i hi=>h i (by omega)⟩);have MN:=ze (show ∀ i,i < zz s.data.toList->zO s.data.toList i=0->Zp s.data.toList=false from fun i hi h=>zjt hi h);clear hs hsl ho;have HN:=ze (show zz s.data.toList=zz s.data.toList from rfl);generalize hn:zz s.data.toList=n at *;have NN:=ze hn;clear hn HN;have g1:decide ((n:Int) < 1)=false:=by rw [decide_eq_false_iff_not];omega
   have g2:decide (8 < (n:Int))=false:=by rw [decide_eq_false_iff_not];omega
   go_enter Tryz.func49,Tryz.ntmps49;go_wp2_with fail;refine (ODD.out).mono ?_;rintro e w' ⟨rfl,rfl⟩;go_wp2_with fail;refine (LEN.out _).mono ?_;rintro e w' ⟨rfl,rfl⟩;go_wp2_with fail;refine (LEN.out _).mono ?_;rintro e w' ⟨rfl,rfl⟩;go_wp2_with fail;refine (LEN.out _).mono ?_;rintro e w' ⟨rfl,rfl⟩;go_wp2;go_loopw [18] (fun i wr=>∃ k:Nat,k<=n∧i=.int .i64 k∧Hid (∀ i,i < k->zO s.data.toList i≠0)∧ZJ w wr) (fun i _=>n - (intOf i).toNat)
   case atStart=>exact ⟨0,by omega,rfl,ze (fun i hi=>by omega),ZJ.refl _⟩
   case round=>
    obtain ⟨k,hk,rfl,HZ,hc⟩:=hrel;have HC:=ze hc;clear hc;by_cases hlt:k < n
    ·go_wp2_with fail
     refine (AT.out wr k hlt).mono ?_;rintro e w1 ⟨rfl,c1⟩;have C1:=ze (HC.out.trans c1);clear c1;have hal:=yT s.data.toList k;by_cases hz:zO s.data.toList k=0
     ·have HF:=ze (MN.out k hlt hz)
      rw [hz];go_wp2;go_ret;exact ⟨by rw [HF.out];rfl,C1.out⟩
     ·have hz1:(((zO s.data.toList k:Nat):Int) == 0)=false:=by rw [zq9];omega
      have HZ2:=ze (show ∀ i,i < k+1->zO s.data.toList i≠0 from fun i hi=>by
       rcases Nat.lt_or_ge i k with q | q
       ·exact HZ.out i q
       ·obtain rfl:i=k:=by omega
        exact hz)
      clear hz;generalize zO s.data.toList k=ak at *;go_wp2;go_roundw
      case rel=>exact ⟨k+1,by omega,by go_num,HZ2,C1.out⟩
      case measure=>simp [intOf];omega
    ·obtain rfl:k=n:=by omega
     have HT:=ze (MB.out k rfl HZ.out);go_wp2;go_ret;exact ⟨by rw [HT.out];rfl,HC.out⟩
  ·have HF:=ze (znR hb)
   clear hs hsl ho;generalize zz s.data.toList=n at *;by_cases h1:n < 1
   ·clear hb
    go_enter Tryz.func49,Tryz.ntmps49;go_wp2_with fail;refine (ODD.out).mono ?_;rintro e w' ⟨rfl,rfl⟩;go_wp2_with fail;refine (LEN.out _).mono ?_;rintro e w' ⟨rfl,rfl⟩;go_wp2;go_ret;exact ⟨by rw [HF.out];rfl,ZJ.refl _⟩
   ·have h2:8 < n:=by omega
    have g1:decide ((n:Int) < 1)=false:=by rw [decide_eq_false_iff_not];omega
    have g2:decide (8 < (n:Int))=true:=by rw [decide_eq_true_eq];omega
    clear hb h1;go_enter Tryz.func49,Tryz.ntmps49;go_wp2_with fail;refine (ODD.out).mono ?_;rintro e w' ⟨rfl,rfl⟩;go_wp2_with fail;refine (LEN.out _).mono ?_;rintro e w' ⟨rfl,rfl⟩;go_wp2_with fail;refine (LEN.out _).mono ?_;rintro e w' ⟨rfl,rfl⟩;go_wp2;go_ret;exact ⟨by rw [HF.out];rfl,ZJ.refl _⟩
 ·have ODD:=ze (znm w s hs ho)
  have HF:=ze (znS (l:=s.data.toList) (by rw [hsl];exact ho));clear hs hsl ho LEN;go_enter Tryz.func49,Tryz.ntmps49;go_wp2_with fail;refine (ODD.out).mono ?_;rintro e w' ⟨rfl,rfl⟩;go_wp2;go_ret;exact ⟨by rw [HF.out];rfl,ZJ.refl _⟩
theorem zi1 (w:World) (s:ByteArray) (k:Nat) (hs:s.size<=maxLen) (hk:k < zz s.data.toList):
  Calls Tryz.prog 81 #[.string s,.int .i64 k] w fun e w'=>e=.returned (.int .u16 (zO s.data.toList k:Nat))∧Chg (fun _=>False) w w':=
 (zp3 w s k hs hk).mono fun _ _ ⟨he,hc⟩=>⟨he,hc.chg⟩
theorem zap (w:World) (s:ByteArray) (hs:s.size<=maxLen):
  Calls Tryz.prog 49 #[.string s] w fun e w'=>e=.returned (.bool (Zp s.data.toList))∧Chg (fun _=>False) w w':=
 (zi0 w s hs).mono fun _ _ ⟨he,hc⟩=>⟨he,hc.chg⟩
open Go.Maps
theorem Tryz.atomKeyed:Keyed Tryz.prog 62:=int_keyed Tryz.underlying62
theorem Tryz.zeroInt (w:World):(zeroValue 3).run Tryz.prog w=.ok (.int .i64 0) w:=by kernel_rfl
def zhQ (a:Nat):Lit:=.int .u16 (a:Int)
theorem zgr (a:Nat) (h:a < 65536):keyOf Tryz.prog 62 (.int .u16 (a:Int))=some (zhQ a):=
 keyOf_int_mk Tryz.underlying62 (by simp only [Lit.wf,zrl,decide_eq_true_eq];exact ⟨by show (0:Int)<=_;omega,by show _<=(65535:Int);omega⟩)
theorem zou {a b:Nat} (h:zhQ a=zhQ b):a=b:=by
 simp only [zhQ,Lit.int.injEq,true_and] at h;omega
abbrev zqu (w:World) (bm n:Nat) (D:DataW Unit):Prop:=w.ownsMap Tryz.prog 62 (plainElem Tryz.prog 3) bm n D
def Yw (w:World) (base L:Nat) (mv:Value) (f:Nat->Option Nat):Prop:=
 (mv=.map none∧∀ a,a < 65536->f a=none) ∨
 ∃ bm n D,mv=.map (some bm)∧base<=bm∧zqu w bm n D∧n<=L∧∀ a,a < 65536->Maps.has D (zhQ a)=(f a).isSome∧∀ j,f a=some j->D.atKey (zhQ a) (.lit (.int .i64 0))=.lit (.int .i64 (j:Int))
def zgf:Value->Option Nat
 | .map r=>r
 | _=>none
theorem Yw.chg {S:Nat->Prop} {w w':World} {base L:Nat} {mv:Value} {f:Nat->Option Nat} (h:Yw w base L mv f) (hc:Chg S w w') (hs:∀ k,zgf mv=some k->¬ S k):Yw w' base L mv f:=by
 rcases h with h | ⟨bm,n,D,rfl,hb,⟨es,clock,hh,r⟩,q⟩
 ·exact .inl h
 ·exact .inr ⟨bm,n,D,rfl,hb,⟨es,clock,hc.obj (hs bm rfl) hh,r⟩,q⟩
theorem Yw.mono {w:World} {base L L':Nat} {mv:Value} {f:Nat->Option Nat} (h:Yw w base L mv f) (hl:L<=L'):Yw w base L' mv f:=by
 rcases h with h | ⟨bm,n,D,rfl,hb,hm,hn,q⟩
 ·exact .inl h
 ·exact .inr ⟨bm,n,D,rfl,hb,hm,by omega,q⟩
theorem Yw.look {w:World} {base L:Nat} {mv:Value} {f:Nat->Option Nat} (h:Yw w base L mv f) {a:Nat} (ha:a < 65536):
  ∃ c:Int,(Instr.lookup 271 mv (.int .u16 (a:Int)) true).run Tryz.prog w=.ok (.tuple #[.int .i64 c,.bool (f a).isSome]) w∧∀ j,f a=some j->c=(j:Int):=by
 rcases h with ⟨rfl,h⟩ | ⟨bm,n,D,rfl,hb,hown,hn,q⟩
 ·refine ⟨0,?_,fun j hj=>by rw [h a ha] at hj;cases hj⟩
  have:=Maps.look_nil (w:=w) true Tryz.atomKeyed Tryz.underlying271 (Tryz.zeroInt w) (zgr a ha);rw [h a ha];exact this
 ·obtain ⟨q1,q2⟩:=q a ha
  obtain ⟨v,ps,hrun,hv⟩:=hown.look_ok Tryz.atomKeyed Tryz.underlying271 (Tryz.zeroInt w) (plainElem_int Tryz.underlying3 (by decide)) (zgr a ha);obtain ⟨c,rfl,hc,hwc⟩:=plainElem_int_inv Tryz.underlying3 hv;rw [q1] at hrun;refine ⟨c,hrun,fun j hj=>?_⟩;have e:=congrArg Prod.fst hc;simp only at e;rw [q2 j hj] at e
  simpa using e.symm
theorem zao {w:World} {ops:Array Oper} {rest:List Oper} {o:Oper} {a:Act} {Q:Exit->Act->World->Prop} (hgd:o.guard=none) (m x:Operand) (hop:o.op=Op.lookup 271 m x true)
  (base L:Nat) (mv:Value) (f:Nat->Option Nat) (hm:a.eval m=mv) (h:Yw w base L mv f) (k:Nat) (hk:k < 65536) (hx:a.eval x=.int .u16 (k:Int))
  (hK:∀ c:Int,(∀ j,f k=some j->c=(j:Int))->wpList Tryz.prog ops Q rest (a.put o.dst (.tuple #[.int .i64 c,.bool (f k).isSome])) w):wpList Tryz.prog ops Q (o :: rest) a w:=by
 refine wpList_plain hgd fun K' hK'=>?_;obtain ⟨c,hrun,hc⟩:=h.look hk;unfold Oper.wp;simp [execOp,hop,hm,hx,hrun,Result.andThen];exact hK' _ _ (hK c hc)
def YV (cs:List (Value × Value)):List Value:=cs.flatMap fun c=>[c.1,c.2]
theorem zaD (cs:List (Value × Value)):(YV cs).length=2*cs.length:=by
 induction cs with
 | nil=>rfl
 | cons c r ih=>simp [YV] at ih ⊢;omega
theorem zjz (cs:List (Value × Value)):∀ k c,cs[k]? = some c->(YV cs)[2*k]? = some c.1∧(YV cs)[2*k+1]? = some c.2:=by
 induction cs with
 | nil=>intro k c h;simp at h
 | cons x r ih=>
  intro k c h;rcases k with _ | k
  ·simp at h;subst h;exact ⟨rfl,rfl⟩
  ·have:=ih k c (by simpa using h)
   show (x.1 :: x.2 :: YV r)[2*(k+1)]? = _∧(x.1 :: x.2 :: YV r)[2*(k+1)+1]? = _;rw [show 2*(k+1)=2*k+1+1 from by omega]
   simpa using this
theorem zez (a b:List (Value × Value)):YV (a++b)=YV a++YV b:=by unfold YV;rw [List.flatMap_append]
theorem zmx (cs:List (Value × Value)):∀ k c,cs[k]? = some c->∀ v,(YV cs).set (2*k) v=YV (cs.set k (v,c.2)):=by
 induction cs with
 | nil=>intro k c h;simp at h
 | cons x r ih=>
  intro k c h v;rcases k with _ | k
  ·simp at h;subst h;rfl
  ·have:=ih k c (by simpa using h) v
   show (x.1 :: x.2 :: YV r).set (2*(k+1)) v=_;rw [show 2*(k+1)=2*k+1+1 from by omega];simp only [List.set_cons_succ,this];rfl
theorem zmw (cs:List (Value × Value)):∀ k c,cs[k]? = some c->∀ v,(YV cs).set (2*k+1) v=YV (cs.set k (c.1,v)):=by
 induction cs with
 | nil=>intro k c h;simp at h
 | cons x r ih=>
  intro k c h v;rcases k with _ | k
  ·simp at h;subst h;rfl
  ·have:=ih k c (by simpa using h) v
   show (x.1 :: x.2 :: YV r).set (2*(k+1)+1) v=_;rw [show 2*(k+1)+1=2*k+1+1+1 from by omega];simp only [List.set_cons_succ,this];rfl
def Yj (l:List Nat):List Value:=l.map fun (n:Nat)=>.int .i64 (n:Int)
def Zo:Value->Option Nat
 | .map r=>r
 | .slice (some a) _ _=>some a.block
 | _=>none
def Yp (ps:List (List Nat)) (p:List Nat) (a:Nat):Option Nat:=if p++[a]∈ps then some (ps.idxOf (p++[a])) else none
structure MB where
 b:Nat
 g:Nat
 cap:Nat
 nw:Nat
structure Zf (w:World) (base:Nat) (B:MB) (cs:List (Value × Value)) (ps:List (List Nat)) (wh:List Nat->List Nat):Prop where
 hb:w.heap[B.b]? = some (.cells #[.slice (some ⟨B.g,0,none⟩) cs.length B.cap,.int .i64 B.nw] 262 (0,0))
 hg:w.ownsRow base 273 2 (.slice (some ⟨B.g,0,none⟩) cs.length B.cap) cs.length (YV cs)
 len:cs.length=ps.length
 em:∀ (k:Nat) p c,ps[k]? = some p->cs[k]? = some c->Yw w base ps.length c.1 (Yp ps p)
 ew:∀ (k:Nat) p c,ps[k]? = some p->cs[k]? = some c->w.ownsRow base 3 1 c.2 (wh p).length (Yj (wh p))
 ap:∀ (i j x:Nat) u v,(YV cs)[i]? = some u->(YV cs)[j]? = some v->Zo u=some x->Zo v=some x->i=j
 ag:∀ (i:Nat) u,(YV cs)[i]? = some u->Zo u≠some B.g∧Zo u≠some B.b
 bg:B.b≠B.g
 bb:base<=B.b
theorem yR {v:Value} {k:Nat} (h:v.ownBlock=some k):Zo v=some k:=by
 unfold Value.ownBlock at h;split at h
 ·exact h
 ·cases h
theorem xK {v:Value} {k:Nat} (h:zgf v=some k):Zo v=some k:=by
 unfold zgf at h;split at h
 ·exact h
 ·cases h
theorem yg {cs:List (Value × Value)} {k:Nat} {c:Value × Value} (h:cs[k]? = some c):(YV cs)[2*k]? = some c.1:=(zjz cs k c h).1
theorem Xg {cs:List (Value × Value)} {k:Nat} {c:Value × Value} (h:cs[k]? = some c):(YV cs)[2*k+1]? = some c.2:=(zjz cs k c h).2
section
variable {w w':World} {base:Nat} {B:MB} {cs:List (Value × Value)} {ps:List (List Nat)} {wh:List Nat->List Nat} {S:Nat->Prop}
theorem Zf.emKept (h:Zf w base B cs ps wh) (hc:Chg S w w') {i0:Nat} (hs:∀ (i:Nat) u x,(YV cs)[i]? = some u->i≠i0->Zo u=some x->¬ S x):
  ∀ (k:Nat) p c,ps[k]? = some p->cs[k]? = some c->2*k≠i0->Yw w' base ps.length c.1 (Yp ps p):=fun k p c hp hcc hk=>
 (h.em k p c hp hcc).chg hc (fun x hx=>hs (2*k) c.1 x (yg hcc) hk (xK hx))
theorem Zf.ewKept (h:Zf w base B cs ps wh) (hc:Chg S w w') {i0:Nat} (hs:∀ (i:Nat) u x,(YV cs)[i]? = some u->i≠i0->Zo u=some x->¬ S x):
  ∀ (k:Nat) p c,ps[k]? = some p->cs[k]? = some c->2*k+1≠i0->w'.ownsRow base 3 1 c.2 (wh p).length (Yj (wh p)):=fun k p c hp hcc hk=>
 zn (h.ew k p c hp hcc) hc (fun x hx=>hs (2*k+1) c.2 x (Xg hcc) hk (yR hx))
theorem Zf.chg (h:Zf w base B cs ps wh) (hc:Chg (fun _=>False) w w'):Zf w' base B cs ps wh:=
 ⟨hc.obj (fun e=>e) h.hb,zn h.hg hc (fun _ _ e=>e),h.len,fun k p c hp hcc=>(h.em k p c hp hcc).chg hc (fun _ _ e=>e),fun k p c hp hcc=>zn (h.ew k p c hp hcc) hc (fun _ _ e=>e),h.ap,h.ag,h.bg,h.bb⟩
theorem Zf.gRow (h:Zf w base B cs ps wh):∃ rest:List Value,w.heap[B.g]? = some (.cells (YV cs++rest).toArray 273 (0,0))∧cs.length<=B.cap∧B.cap<=maxLen∧(YV cs++rest).length=B.cap*2:=by
 obtain ⟨_,⟨e,_⟩ | ⟨g,cap,cur,e,hg,hh,q1,q2,q3,q4⟩⟩:=h.hg
 ·cases e
 ·cases e
  refine ⟨cur.toList.drop (cs.length*2),?_,q1,q2,?_⟩
  ·rw [hh,<- q4,zrd,Array.toArray_toList]
  ·rw [<- q4,zrd,Array.length_toList,q3]
theorem Zf.mcell (h:Zf w base B cs ps wh) {k:Nat} {c:Value × Value} (hk:cs[k]? = some c):w.cell? ⟨B.g,k*2,none⟩=some c.1∧w.cell? ⟨B.g,k*2+1,none⟩=some c.2:=by
 obtain ⟨rest,hh,_⟩:=h.gRow;have hl:k < cs.length:=(zq1.1 hk).1;have hfl:=zaD cs;refine ⟨zf hh ?_,zf hh ?_⟩
 ·rw [zqV,List.getElem?_append_left (by omega),show k*2=2*k from by omega];exact yg hk
 ·rw [zqV,List.getElem?_append_left (by omega),show k*2+1=2*k+1 from by omega];exact Xg hk
theorem Zf.frz (h:Zf w base B cs ps wh) (o:Nat):w.frozen? ⟨B.g,o,none⟩=false:=by
 obtain ⟨rest,hh,_⟩:=h.gRow;exact zm hh
theorem Zf.glt (h:Zf w base B cs ps wh):base<=B.g∧B.g < w.heap.size:=h.hg.lt B.g rfl
theorem Zf.blt (h:Zf w base B cs ps wh) {i:Nat} {u:Value} {x:Nat} (hi:(YV cs)[i]? = some u) (hx:Zo u=some x):base<=x∧x < w.heap.size:=by
 have hil:i < (YV cs).length:=(zq1.1 hi).1;rw [zaD] at hil;have hk:i / 2 < cs.length:=by omega
 obtain ⟨c,hc⟩:∃ c,cs[i / 2]? = some c:=⟨_,zq0 hk⟩;obtain ⟨p,hp⟩:∃ p,ps[i / 2]? = some p:=⟨_,zq0 (by rw [<- h.len];exact hk)⟩;rcases (by omega:i=2*(i / 2)∨i=2*(i / 2)+1) with e | e
 ·rw [e,yg hc] at hi
  cases hi;rcases h.em _ p c hp hc with ⟨q,_⟩ | ⟨bm,n,D,q,hb,hown,_⟩
  ·rw [q] at hx;cases hx
  ·rw [q] at hx;cases hx;exact ⟨hb,hown.lt⟩
 ·rw [e,Xg hc] at hi
  cases hi;have ho:=h.ew _ p c hp hc;obtain ⟨a,cp,q⟩:=zl ho
  have:c.2.ownBlock=some x:=by
   rw [q] at hx ⊢;cases a with
   | none=>cases hx
   | some a=>exact hx
  exact ho.lt x this
theorem Zf.rowSet (h:Zf w base B cs ps wh) {o:Nat} {v:Value} {cs':List (Value × Value)} (hl:cs'.length=cs.length) (hf:(YV cs).set o v=YV cs'):
  (w.setCell ⟨B.g,o,none⟩ v).ownsRow base 273 2 (.slice (some ⟨B.g,0,none⟩) cs'.length B.cap) cs'.length (YV cs'):=by
 obtain ⟨_,⟨e,_⟩ | ⟨g,cap,cur,e,hg,hh,q1,q2,q3,q4⟩⟩:=h.hg
 ·cases e
 ·cases e
  refine ⟨by rw [zaD];omega,.inr ⟨B.g,B.cap,cur.setIfInBounds o v,rfl,hg,zt hh _,by omega,q2,by simpa using q3,?_⟩⟩;rw [hl,Array.toList_setIfInBounds,List.take_set,q4,hf]
theorem za7 {cs cs':List (Value × Value)} {o:Nat} {v:Value} (hf:(YV cs).set o v=YV cs') {i:Nat} {u:Value} (hi:(YV cs')[i]? = some u):(i=o∧u=v)∨(i≠o∧(YV cs)[i]? = some u):=by
 rw [<- hf,List.getElem?_set] at hi;split at hi
 ·rename_i e
  split at hi
  ·cases hi;exact .inl ⟨e.symm,rfl⟩
  ·cases hi
 ·rename_i e
  exact .inr ⟨fun q=>e q.symm,hi⟩
theorem zoM (h:Zf w base B cs ps wh) {cs':List (Value × Value)} {o:Nat} {v old:Value} (hf:(YV cs).set o v=YV cs') (ho:(YV cs)[o]? = some old) (hv:Zo v=Zo old∨∀ x,Zo v=some x->w.heap.size<=x):
  (∀ (i j x:Nat) u v,(YV cs')[i]? = some u->(YV cs')[j]? = some v->Zo u=some x->Zo v=some x->i=j)∧(∀ (i:Nat) u,(YV cs')[i]? = some u->Zo u≠some B.g∧Zo u≠some B.b):=by
 have hb:=zr h.hb;have hg:=h.glt
 have key:∀ (j:Nat) u x,j≠o->(YV cs)[j]? = some u->Zo u=some x->Zo v≠some x:=by
  intro j u x hj hu hx hvx;rcases hv with e | e
  ·exact hj (h.ap j o x u old hu ho hx (e ▸ hvx))
  ·have:=e x hvx;have:=(h.blt hu hx).2;omega
 constructor
 ·intro i j x u v' hi hj hu hv'
  rcases za7 hf hi with ⟨rfl,rfl⟩ | ⟨n1,hi⟩ <;> rcases za7 hf hj with ⟨rfl,rfl⟩ | ⟨n2,hj⟩
  ·rfl
  ·exact absurd hu (key j v' x n2 hj hv')
  ·exact absurd hv' (key i u x n1 hi hu)
  ·exact h.ap i j x u v' hi hj hu hv'
 ·intro i u hi
  rcases za7 hf hi with ⟨rfl,rfl⟩ | ⟨_,hi⟩
  ·constructor
   ·intro e
    rcases hv with q | q
    ·exact (h.ag i old ho).1 (q ▸ e)
    ·have:=q _ e;omega
   ·intro e
    rcases hv with q | q
    ·exact (h.ag i old ho).2 (q ▸ e)
    ·have:=q _ e;omega
  ·exact h.ag i u hi
theorem zbq {cs:List (Value × Value)} {k i:Nat} {c x:Value × Value} (h:(cs.set k x)[i]? = some c):(i=k∧c=x)∨(i≠k∧cs[i]? = some c):=by
 rw [List.getElem?_set] at h;split at h
 ·rename_i e
  split at h
  ·cases h;exact .inl ⟨e.symm,rfl⟩
  ·cases h
 ·rename_i e
  exact .inr ⟨fun q=>e q.symm,h⟩
theorem Zf.newMap (h:Zf w base B cs ps wh) {k:Nat} {p:List Nat} {v:Value} (hp:ps[k]? = some p) (hk:cs[k]? = some (.map none,v)):
  Zf ((w.alloc (.map #[] 0)).setCell ⟨B.g,k*2,none⟩ (.map (some w.heap.size))) base B (cs.set k (.map (some w.heap.size),v)) ps wh:=by
 have h1:=h.chg (zi (fun _=>False) w (.map #[] 0));have hf:=zmx cs k _ hk (.map (some w.heap.size));rw [show 2*k=k*2 from by omega] at hf;have hc:Chg (·=B.g) (w.alloc (.map #[] 0)) ((w.alloc (.map #[] 0)).setCell ⟨B.g,k*2,none⟩ (.map (some w.heap.size))):=zG _ _ _ _;have hoth:∀ (i:Nat) u x,(YV cs)[i]? = some u->i≠2*cs.length->Zo u=some x->¬ x=B.g:=fun i u x hu _ hx e=>(h.ag i u hu).1 (e ▸ hx)
 have hlen:∀ i,cs[i]?≠none->2*i≠2*cs.length∧2*i+1≠2*cs.length:=fun i hi=>by
  have:i < cs.length:=by
   rcases Nat.lt_or_ge i cs.length with q | q
   ·exact q
   ·exact absurd (zrg q) hi
  omega
 have hapx:=zoM h hf (by rw [show k*2=2*k from by omega];exact yg hk) (.inr fun x hx=>by cases hx;exact zrj _);have hgl:=h.glt;have hkl:k < cs.length:=(zq1.1 hk).1;refine ⟨hc.obj h.bg (by rw [List.length_set];exact h1.hb),h1.rowSet (List.length_set ..) hf,by rw [List.length_set];exact h.len,?_,?_,hapx.1,hapx.2,h.bg,h.bb⟩
 ·intro i q c hq hci
  rcases zbq hci with ⟨rfl,rfl⟩ | ⟨hne,hci⟩
  ·obtain rfl:p=q:=by rw [hp] at hq;exact Option.some.inj hq
   have e0:=h.em i p _ hp hk;rcases e0 with ⟨_,hnone⟩ | ⟨bm,n,D,e,_⟩
   ·refine .inr ⟨w.heap.size,0,.map [],rfl,by omega,?_,by omega,fun a ha=>?_⟩
    ·exact World.ownsMap.setCell (World.ownsMap_made _ _ _ _) (by show w.heap.size≠B.g;omega) _
    ·rw [hnone a ha]
     exact ⟨rfl,fun j hj=>by cases hj⟩
   ·cases e
  ·exact h1.emKept hc hoth i q c hq hci (hlen i (by rw [hci];simp)).1
 ·intro i q c hq hci
  rcases zbq hci with ⟨rfl,rfl⟩ | ⟨hne,hci⟩
  ·exact h1.ewKept hc hoth i q (.map none,v) hq hk (hlen i (by rw [hk];simp)).2
  ·exact h1.ewKept hc hoth i q c hq hci (hlen i (by rw [hci];simp)).2
theorem Zf.addWord (h:Zf w base B cs ps wh) (hnd:ps.Nodup) {k which:Nat} {p:List Nat} {m v v':Value} (hp:ps[k]? = some p) (hk:cs[k]? = some (m,v))
  (ho:w'.ownsRow base 3 1 v' ((wh p).length+1) (Yj (wh p)++[.int .i64 (which:Int)])) (hg:w.grownBy w' v.ownBlock) (hs:Ya w v v'):
  Zf (w'.setCell ⟨B.g,k*2+1,none⟩ v') base B (cs.set k (m,v')) ps (fun q=>if q=p then wh q++[which] else wh q):=by
 have hf:=zmw cs k _ hk v';rw [show 2*k+1=k*2+1 from by omega] at hf;have hfl:(YV cs)[k*2+1]? = some v:=by rw [show k*2+1=2*k+1 from by omega];exact Xg hk
 obtain ⟨av,cv,ev⟩:=zl (h.ew k p _ hp hk);obtain ⟨av',cv',ev'⟩:=zl ho
 have bo:∀ u:Value,(∃ a n c,u=.slice a n c)->Zo u=u.ownBlock:=by
  rintro u ⟨a,n,c,rfl⟩;cases a <;> rfl
 have bv:Zo v=v.ownBlock:=bo v ⟨_,_,_,ev⟩;have bv':Zo v'=v'.ownBlock:=bo v' ⟨_,_,_,ev'⟩;have hvg:v.ownBlock≠some B.g:=by rw [<- bv];exact (h.ag _ v hfl).1
 have hvb:v.ownBlock≠some B.b:=by rw [<- bv];exact (h.ag _ v hfl).2
 have c1:Chg (fun x=>v.ownBlock=some x) w w':=Chg.of_grown hg;have c2:Chg (·=B.g) w' (w'.setCell ⟨B.g,k*2+1,none⟩ v'):=zG _ _ _ _;have cc:Chg (fun x=>v.ownBlock=some x∨x=B.g) w (w'.setCell ⟨B.g,k*2+1,none⟩ v'):=(c1.mono (fun _ _ e=>.inl e)).trans (c2.mono (fun _ _ e=>.inr e))
 have hoth:∀ (i:Nat) u x,(YV cs)[i]? = some u->i≠2*k+1->Zo u=some x->¬ (v.ownBlock=some x∨x=B.g):=fun i u x hu hne hx e=>by
  rcases e with e | rfl
  ·rw [<- bv] at e
   exact hne (by have:=h.ap i (k*2+1) x u v hu hfl hx e;omega)
  ·exact (h.ag i u hu).1 hx
 have hapx:=zoM h hf hfl (by
  rcases hs with e | e
  ·exact .inl (by rw [bv,bv',e])
  ·exact .inr fun x hx=>e x (by rw [<- bv'];exact hx))
 have hrow:Zf w base B cs ps wh:=h;have hg':w'.ownsRow base 273 2 (.slice (some ⟨B.g,0,none⟩) cs.length B.cap) cs.length (YV cs):=zn h.hg c1 (fun x hx e=>hvg (by rw [e];exact hx.symm))
 have hrs:(w'.setCell ⟨B.g,k*2+1,none⟩ v').ownsRow base 273 2 (.slice (some ⟨B.g,0,none⟩) (cs.set k (m,v')).length B.cap) (cs.set k (m,v')).length (YV (cs.set k (m,v'))):=by
  obtain ⟨_,⟨e,_⟩ | ⟨g,cap,cur,e,hgg,hh,q1,q2,q3,q4⟩⟩:=hg'
  ·cases e
  ·cases e
   refine ⟨by rw [zaD];omega,.inr ⟨B.g,B.cap,cur.setIfInBounds (k*2+1) v',rfl,hgg,zt hh _,by rw [List.length_set];omega,q2,by simpa using q3,?_⟩⟩;rw [List.length_set,Array.toList_setIfInBounds,List.take_set,q4,hf]
 refine ⟨cc.obj (fun e=>by rcases e with e | e;exact hvb e;exact h.bg e) (by rw [List.length_set];exact h.hb),hrs,by rw [List.length_set];exact h.len,?_,?_,hapx.1,hapx.2,h.bg,h.bb⟩
 ·intro i q c hq hci
  rcases zbq hci with ⟨rfl,rfl⟩ | ⟨hne,hci⟩
  ·exact h.emKept cc hoth i q (m,v) hq hk (by omega)
  ·exact h.emKept cc hoth i q c hq hci (by omega)
 ·intro i q c hq hci
  rcases zbq hci with ⟨rfl,rfl⟩ | ⟨hne,hci⟩
  ·obtain rfl:p=q:=by rw [hp] at hq;exact Option.some.inj hq
   rw [if_pos rfl];have e:Yj (wh p++[which])=Yj (wh p)++[.int .i64 (which:Int)]:=by unfold Yj;rw [List.map_append];rfl
   rw [e,zq3];refine zn ho c2 (fun x hx e=>?_);subst e;rcases hs with q | q
   ·exact hvg (q ▸ hx)
   ·have:=q _ hx;have:=h.glt.2;omega
  ·have hqp:q≠p:=fun e=>hne (by
    subst e;exact (List.getElem?_inj (zq1.1 hq).1 hnd).1 (hq.trans hp.symm))
   rw [if_neg hqp];exact h.ewKept cc hoth i q c hq hci (by omega)
end
theorem zjc {p q:List Nat} {a b:Nat} (h:p++[a]=q++[b]):p=q∧a=b:=by
 have:=List.append_inj' h rfl;exact ⟨this.1,by simpa using this.2⟩
theorem zht {ps:List (List Nat)} {q p:List Nat} {a:Nat} (h:p++[a]≠q):Yp (ps++[q]) p a=Yp ps p a:=by
 unfold Yp;by_cases hm:p++[a]∈ps
 ·rw [if_pos hm,if_pos (List.mem_append_left _ hm),List.idxOf_append,if_pos hm]
 ·rw [if_neg hm,if_neg]
  rw [zrc,List.mem_singleton];rintro (e | e)
  ·exact hm e
  ·exact h e
theorem zeC {ps:List (List Nat)} {p:List Nat} {a:Nat} (h:p++[a] ∉ ps):Yp (ps++[p++[a]]) p a=some ps.length:=by
 unfold Yp;rw [if_pos (by simp),List.idxOf_append,if_neg h];simp
theorem zaC {cs:List (Value × Value)} {i:Nat} {u:Value} (h:(YV (cs++[(.map none,.slice none 0 0)]))[i]? = some u):(YV cs)[i]? = some u∨Zo u=none:=by
 rw [zez] at h;rcases Nat.lt_or_ge i (YV cs).length with q | q
 ·rw [List.getElem?_append_left q] at h;exact .inl h
 ·rw [List.getElem?_append_right q] at h
  right;have:=zq2 h;simp [YV] at this;rcases this with rfl | rfl <;> rfl
theorem zbp {α:Type} {l:List α} {x c:α} {i:Nat} (h:(l++[x])[i]? = some c):(i < l.length∧l[i]? = some c)∨(i=l.length∧c=x):=by
 rcases Nat.lt_or_ge i l.length with q | q
 ·rw [List.getElem?_append_left q] at h;exact .inl ⟨q,h⟩
 ·rw [List.getElem?_append_right q] at h
  rcases Nat.eq_zero_or_pos (i - l.length) with e | e
  ·rw [e] at h;simp at h;exact .inr ⟨by omega,h.symm⟩
  ·rw [zrg (by simp;omega)] at h;cases h
def zqq (D:DataW Unit) (f:Nat->Option Nat):Prop:=∀ a,a < 65536->Maps.has D (zhQ a)=(f a).isSome∧∀ j,f a=some j->D.atKey (zhQ a) (.lit (.int .i64 0))=.lit (.int .i64 (j:Int))
theorem znv {w:World} {bm n:Nat} {D:DataW Unit} (hm:zqu w bm n D) {ps:List (List Nat)} {p:List Nat} {a:Nat} (h:zqq D (Yp ps p)) (hn:p++[a] ∉ ps):
  zqq (D.put (zhQ a) (.lit (.int .i64 ((ps.length:Nat):Int)))) (Yp (ps++[p++[a]]) p):=by
 intro b hb;by_cases e:b=a
 ·subst e
  rw [zeC hn,Maps.has_put_same hm.isMap (show WideAt.IsKeyLit (zhQ b) from trivial)];refine ⟨rfl,fun j hj=>?_⟩;cases hj;exact Maps.atKey_put_same hm.isMap (show WideAt.IsKeyLit (zhQ b) from trivial) _ _
 ·have hk:zhQ b≠zhQ a:=fun q=>e (zou q)
  rw [zht (fun q=>e (zjc q).2),Maps.has_put_other hk];refine ⟨(h b hb).1,fun j hj=>?_⟩;rw [Maps.atKey_put_other hk];exact (h b hb).2 j hj
theorem Zf.addEdge {w w1 w3:World} {base:Nat} {B:MB} {cs:List (Value × Value)} {ps:List (List Nat)} {wh:List Nat->List Nat} (h:Zf w base B cs ps wh) (ht:zhR ps) {k a bm n:Nat} {p:List Nat} {D:DataW Unit} {v v':Value} {X:Obj}
  (hp:ps[k]? = some p) (hk:cs[k]? = some (.map (some bm),v)) (hn:p++[a] ∉ ps) (hwh:wh (p++[a])=[]) (hm:zqu w bm n D) (hnl:n<=ps.length) (hsy:zqq D (Yp ps p))
  (hm1:zqu w1 bm (n+1) (D.put (zhQ a) (.lit (.int .i64 ((ps.length:Nat):Int))))) (g1:w.grownBy w1 (some bm))
  (o3:w3.ownsRow base 273 2 v' (cs.length+1) (YV cs++[.map none,.slice none 0 0])) (g3:(w1.alloc X).grownBy w3 (some B.g)) (s3:Ya (w1.alloc X) (.slice (some ⟨B.g,0,none⟩) cs.length B.cap) v'):
  ∃ g' cap',v'=.slice (some ⟨g',0,none⟩) (cs.length+1) cap'∧Zf (w3.setCell ⟨B.b,0,none⟩ v') base ⟨B.b,g',cap',B.nw⟩ (cs++[(.map none,.slice none 0 0)]) (ps++[p++[a]]) wh:=by
 have o3':=o3;obtain ⟨_,⟨_,e⟩ | ⟨g',cap',cur,rfl,hbg,hh,q1,q2,q3,q4⟩⟩:=o3
 ·omega
 refine ⟨g',cap',rfl,?_⟩;have hfk:(YV cs)[2*k]? = some (.map (some bm)):=yg hk;have hbm:=h.blt hfk rfl;have hbmg:bm≠B.g:=fun e=>(h.ag _ _ hfk).1 (by rw [<- e];rfl);have hbmb:bm≠B.b:=fun e=>(h.ag _ _ hfk).2 (by rw [<- e];rfl);have hbl:=zr h.hb;have hgl:=h.glt;have z1:=g1.size;have z2:(w1.alloc X).heap.size=w1.heap.size+1:=by simp
 have hg':g'=B.g∨w1.heap.size+1<=g':=by
  rcases s3 with e | e
  ·simp [Value.ownBlock] at e;exact .inl e
  ·have:=e g' rfl;exact .inr (by omega)
 have c1:Chg (fun x=>x=bm∨x=B.g∨x=B.b) w w1:=(Chg.of_grown g1).mono (fun x _ e=>.inl (Option.some.inj e).symm)
 have c3:Chg (fun x=>x=B.g∨x=B.b) w1 (w3.setCell ⟨B.b,0,none⟩ (.slice (some ⟨g',0,none⟩) (cs.length+1) cap')):=
  ((zi _ w1 X).trans ((Chg.of_grown g3).mono (fun x _ e=>.inl (Option.some.inj e).symm))).trans ((zG w3 B.b 0 _).mono (fun x _ e=>.inr e))
 have cc:=c1.trans (c3.mono (T:=fun x=>x=bm∨x=B.g∨x=B.b) (fun x _ e=>.inr e))
 have hoth:∀ (i:Nat) u x,(YV cs)[i]? = some u->i≠2*k->Zo u=some x->¬ (x=bm∨x=B.g∨x=B.b):=fun i u x hu hne hx e=>by
  rcases e with rfl | rfl | rfl
  ·exact hne (h.ap i (2*k) x u _ hu hfk hx rfl)
  ·exact (h.ag i u hu).1 hx
  ·exact (h.ag i u hu).2 hx
 have hb3:w3.heap[B.b]? = some (.cells #[.slice (some ⟨B.g,0,none⟩) cs.length B.cap,.int .i64 B.nw] 262 (0,0)):=by
  have e1:=(Chg.of_grown g1).obj (fun e=>hbmb (Option.some.inj e)) h.hb;exact (Chg.of_grown g3).obj (fun e=>h.bg (Option.some.inj e).symm) (Ze X e1)
 have bg':B.b≠g':=by rcases hg' with e | e;rw [e];exact h.bg;omega
 have hfl:YV (cs++[(.map none,.slice none 0 0)])=YV cs++[.map none,.slice none 0 0]:=by rw [zez];rfl
 have hlc:(cs++[((.map none:Value),(.slice none 0 0:Value))]).length=cs.length+1:=by simp
 refine ⟨?_,?_,by simp [h.len],?_,?_,?_,?_,bg',h.bb⟩
 ·rw [hlc];exact (zt hb3 _).trans rfl
 ·rw [hlc,hfl]
  exact zn o3' (zG w3 B.b 0 _) (fun x hx e=>bg' (by simp [Value.ownBlock] at hx;omega))
 ·intro i q c hq hci
  rcases zbp hq with ⟨hil,hq0⟩ | ⟨hil,rfl⟩
  ·have hci:=((zbp hci).resolve_right (fun e=>by have:=h.len;have:=e.1;omega)).2
   clear hq;have hq:=hq0;by_cases hik:i=k
   ·subst hik
    obtain rfl:p=q:=by rw [hp] at hq;exact Option.some.inj hq
    rw [hk] at hci;cases hci;refine Yw.chg (w:=w1) (.inr ⟨bm,n+1,_,rfl,hbm.1,hm1,by simp;omega,znv hm hsy hn⟩) c3 (fun x hx e=>?_);cases hx;rcases e with e | e
    ·exact hbmg e
    ·exact hbmb e
   ·have hqp:q≠p:=fun e=>hik (by
     subst e;exact (List.getElem?_inj hil ht.nodup).1 (hq.trans hp.symm))
    have:=h.emKept cc hoth i q c hq hci (by omega);have ef:Yp (ps++[p++[a]]) q=Yp ps q:=funext fun b=>zht (fun e=>hqp (zjc e).1);rw [ef];exact this.mono (by simp)
  ·rcases zbp hci with ⟨hjl,_⟩ | ⟨_,rfl⟩
   ·have:=h.len;omega
   refine .inl ⟨rfl,fun b _=>?_⟩;unfold Yp;rw [if_neg];rw [zrc,List.mem_singleton];rintro (e | e)
   ·exact hn (ht.down _ _ e)
   ·have:=congrArg List.length e;simp at this
 ·intro i q c hq hci
  rcases zbp hq with ⟨hil,hq⟩ | ⟨hil,rfl⟩
  ·have hci:=((zbp hci).resolve_right (fun e=>by have:=h.len;have:=e.1;omega)).2
   exact h.ewKept cc hoth i q c hq hci (by omega)
  ·rcases zbp hci with ⟨hjl,_⟩ | ⟨_,rfl⟩
   ·have:=h.len;omega
   rw [hwh];exact World.ownsRow_nil _ _ _ _
 ·intro i j x u v hi hj hu hv
  rcases zaC hi with hi | e
  ·rcases zaC hj with hj | e
   ·exact h.ap i j x u v hi hj hu hv
   ·rw [e] at hv;cases hv
  ·rw [e] at hu;cases hu
 ·intro i u hi
  rcases zaC hi with hi | e
  ·refine ⟨fun e=>?_,(h.ag i u hi).2⟩
   rcases hg' with q | q
   ·exact (h.ag i u hi).1 (by rw [<- q];exact e)
   ·have:=(h.blt hi e).2
    have e:g' < w.heap.size:=this;omega
  ·rw [e];exact ⟨(fun q=>by cases q),(fun q=>by cases q)⟩
theorem Tryz.elemState:Zt Tryz.prog 273 2 32:=Zj (z:=.agg #[.map none,.slice none 0 0]) (by kernel_rfl) rfl (by decide)
theorem Tryz.elemInt:Zt Tryz.prog 3 1 8:=Zj (z:=.int .i64 0) (by kernel_rfl) rfl (by decide)
theorem Tryz.sizeInts:(Tryz.prog.info? 36).map (·.size)=some 1:=by kernel_rfl
theorem zjy {ps:List (List Nat)} {q:List Nat} (h:q∈ps):ps[ps.idxOf q]? = some q:=by
 have hl:ps.idxOf q < ps.length:=List.idxOf_lt_length_of_mem h;rw [zq0 hl,List.getElem_idxOf hl]
theorem XW {ps:List (List Nat)} (ht:zhR ps) (p:List Nat):∀ k,p.take k∈putTo ps p k
 | 0=>by simpa [putTo] using ht.mem_nil
 | k+1=>(zaW ps p (k+1) _).2 (.inr ⟨k+1,by omega,zrj _,rfl⟩)
theorem zaX (ps:List (List Nat)) (p:List Nat):∀ k,(putTo ps p k).length<=ps.length+k
 | 0=>by simp [putTo]
 | k+1=>by
  have:=zaX ps p k;rw [putTo];split
  ·omega
  ·simp;omega
set_option maxHeartbeats 4000000 in
set_option maxRecDepth 100000 in
theorem zpi (w:World) (base:Nat) (B:MB) (cs:List (Value × Value)) (ps:List (List Nat)) (wh:List Nat->List Nat) (which:Nat) (s:ByteArray) (h:Zf w base B cs ps wh) (ht:zhR ps) (hs:s.size<=400)
  (hps:ps.length<=900000) (hfr:∀ q,q ∉ ps->wh q=[]) (hwl:(wh (zT s.data.toList)).length<=1000000):
  Calls Tryz.prog 181 #[.pointer (some ⟨B.b,0,none⟩),.int .i64 (which:Int),.string s] w fun e w'=>e=.returned (.tuple #[]) ∧
   ∃ B' cs',B'.b=B.b∧B'.nw=B.nw∧Zf w' base B' cs' (zp8 ps (zT s.data.toList)) (fun q=>if q=zT s.data.toList then wh q++[which] else wh q)∧Chg (fun x=>base<=x) w w':=by
 have hsl:=zA s;have LEN:=ze (ZO w s (by unfold maxLen;omega));have AT:=ze (fun w k hk=>zi1 w s k (by unfold maxLen;omega) hk);have hn2:zz s.data.toList<=200:=by unfold zz;omega
 have PL:=ze (zU s.data.toList);have TK:=ze (fun k hk=>zbc s.data.toList (i:=k) hk);have ALT:=ze (fun k=>yT s.data.toList k);have HFR:=ze hfr;have HT:=ze ht;have H:=ze h;clear hs hsl hfr ht h;unfold zp8;rw [PL.out];generalize hp:zT s.data.toList=p at *;generalize hn:zz s.data.toList=n at *;clear hp hn;have hnil:=fun (w:World) (r:Option Nat)=>run_eql_map_nil (P:=Tryz.prog) w 271 62 3 r Tryz.underlying271;have hmm:=fun (w:World)=>run_makeMap (P:=Tryz.prog) 271 w;go_enter Tryz.func181,Tryz.ntmps181;go_wp2_with fail;refine (LEN.out).mono ?_;rintro e w' ⟨rfl,rfl⟩;go_wp2;go_loopw [6,13] (fun av iv wr=>∃ k:Nat,k<=n∧iv=.int .i64 k∧av=.int .i64 (((putTo ps p k).idxOf (p.take k):Nat):Int)∧∃ B2 cs2,B2.b=B.b∧B2.nw=B.nw∧Zf wr base B2 cs2 (putTo ps p k) wh∧Chg (fun x=>base<=x) w wr) (fun _ iv _=>n - (intOf iv).toNat)
 case atStart=>
  refine ⟨0,by omega,rfl,?_,B,cs,rfl,rfl,H.out,Chg.refl _ _⟩
  have e0:(putTo ps p 0).idxOf (p.take 0)=0:=by
   rw [putTo,List.take_zero];cases ps with
   | nil=>rfl
   | cons a r=>have:=HT.out.root;simp at this;subst this;simp
  rw [e0];rfl
 case round=>
  obtain ⟨k,hk,rfl,rfl,B2,cs2,bb,bw,hm,hc⟩:=hrel;have HM:=ze hm;have HC:=ze hc;have BB:=ze bb;have BW:=ze bw;clear hm hc bb bw;by_cases hlt:k < n
  ·have PM:=ze (XW HT.out p k)
   have TP:=ze (HT.out.putTo p k (by rw [PL.out];omega));have hpl:=zaX ps p k;have PSU:=ze (show putTo ps p (k+1)=if p.take (k+1)∈putTo ps p k then putTo ps p k else putTo ps p k++[p.take (k+1)] from rfl);have FRK:=ze (show ∀ q,q ∉ putTo ps p k->wh q=[] from fun q hq=>HFR.out q (fun e=>hq ((zaW ps p k q).2 (.inl e))));have TK1:=ze (TK.out k hlt);have hak:=ALT.out k;generalize hak':zO s.data.toList k=ak at *;generalize putTo ps p k=P at *;generalize p.take k=q at *;have HP:=ze (zjy PM.out);obtain ⟨ix,hix⟩:∃ ix,P.idxOf q=ix:=⟨_,rfl⟩;rw [hix] at HP ⊢;have hixl:ix < P.length:=by rw [<- hix];exact List.idxOf_lt_length_of_mem PM.out
   clear hix;obtain ⟨c,hcc⟩:∃ c,cs2[ix]? = some c:=⟨_,zq0 (by rw [HM.out.len];exact hixl)⟩;obtain ⟨mv,vv⟩:=c;have HCC:=ze hcc;have LEN2:=ze HM.out.len;have hcl:ix < cs2.length:=by rw [HM.out.len];exact hixl
   clear hcc;go_wp2_with fail;refine (AT.out wr k hlt).mono ?_;rintro e w1 ⟨rfl,c1⟩;rw [hak'];have M1:=ze (HM.out.chg c1);have C1:=ze (HC.out.trans (c1.mono (fun _ _ e=>e.elim)));clear c1 HM HC hak';have cb:w1.cell? ⟨B2.b,0,none⟩=some (.slice (some ⟨B2.g,0,none⟩) cs2.length B2.cap):=zf M1.out.hb rfl;have cm:w1.cell? ⟨B2.g,ix*2,none⟩=some mv:=(M1.out.mcell HCC.out).1;have fm:=M1.out.frz (ix*2);rw [BB.out] at cb;have EM:=ze (M1.out.em ix q _ HP.out HCC.out);by_cases hin:q++[ak]∈P
   ·have he:Yp P q ak=some (P.idxOf (q++[ak])):=by unfold Yp;rw [if_pos hin]
    have PS1:=ze (show putTo ps p (k+1)=P by rw [PSU.out,TK1.out,if_pos hin]);have HE:=ze he;have hes:(Yp P q ak).isSome=true:=by rw [he];rfl
    clear he;go_wp2_with (at_lookup;refine zao rfl (.tmp 27) (.tmp 28) rfl base P.length mv (Yp P q) rfl EM.out ak hak rfl ?_;intro c hc);have hc':=hc _ HE.out;subst hc';clear hc;go_roundw
    case rel=>exact ⟨k+1,by omega,by go_num,by rw [PS1.out,TK1.out],B2,cs2,BB.out,BW.out,by rw [PS1.out];exact M1.out,C1.out⟩
    case measure=>simp [intOf];omega
   ·have he:Yp P q ak=none:=by unfold Yp;rw [if_neg hin]
    have PS1:=ze (show putTo ps p (k+1)=P++[q++[ak]] by rw [PSU.out,TK1.out,if_neg hin]);have HWH:=ze (FRK.out _ hin);have HN:=ze hin;have hes:(Yp P q ak).isSome=false:=by rw [he];rfl
    have em:=EM.out;clear he hin;rcases em with ⟨rfl,hnone⟩ | ⟨bm,nn,D,rfl,hbm,ham,hnn,hsy⟩
    ·have m2:=M1.out.newMap HP.out HCC.out
     have k2:Chg (fun x=>base<=x) w ((w1.alloc (.map #[] 0)).setCell ⟨B2.g,ix*2,none⟩ (.map (some w1.heap.size))):=(C1.out.alloc _).trans ((zG _ _ _ _).mono (fun x _ e=>by have:=M1.out.glt.1;omega));have am2:zqu ((w1.alloc (.map #[] 0)).setCell ⟨B2.g,ix*2,none⟩ (.map (some w1.heap.size))) w1.heap.size 0 (.map []):=World.ownsMap.setCell (World.ownsMap_made _ _ _ _) (by show w1.heap.size≠B2.g;have:=M1.out.glt.2;omega) _;have HNN:=ze (show 0<=P.length by omega);have SY:=ze (show zqq (.map []) (Yp P q) from fun a ha=>by rw [hnone a ha];exact ⟨rfl,fun j hj=>by cases hj⟩);have HK2:=ze (show (cs2.set ix (.map (some w1.heap.size),vv))[ix]? = some (.map (some w1.heap.size),vv) by rw [List.getElem?_set_self (by omega)]);have sw:=World.setCell_alloc_past (w:=w1) (.map #[] 0) B2.g (ix*2) (.map (some w1.heap.size)) M1.out.glt.2;rw [sw] at m2 k2 am2;have HL2:=ze (show (cs2.set ix (.map (some w1.heap.size),vv)).length=cs2.length from List.length_set ..);have MH:=ze m2;have CH:=ze k2;have AM:=ze am2;have hgb:B2.g≠B.b:=fun e=>M1.out.bg (by rw [BB.out,e]);clear m2 k2 am2 hnone sw;have hgb2:B.b≠B2.g:=fun e=>hgb e.symm;have gl:B2.g < w1.heap.size:=M1.out.glt.2;have bl:B.b < w1.heap.size:=by have:=zr M1.out.hb;rw [BB.out] at this;exact this
     have ca:(w1.alloc (.map #[] 0)).cell? ⟨B2.g,ix*2,none⟩=some (.map none):=zj (zi (fun _=>False) w1 _) (fun e=>e) cm;have fa:(w1.alloc (.map #[] 0)).frozen? ⟨B2.g,ix*2,none⟩=false:=(M1.out.chg (zi (fun _=>False) w1 (.map #[] 0))).frz _;go_wp2_with (first | (at_lookup;refine zao rfl (.tmp 27) (.tmp 28) rfl base P.length (.map none) (Yp P q) rfl EM.out ak hak rfl ?_;intro c hc;clear hc) | (at_mapUpdate;refine wpList_mapUpdate_own _ rfl (.tmp 63) (.tmp 64) (.tmp 65) 271 rfl 62 3 Tryz.atomKeyed Tryz.underlying271 (plainElem Tryz.prog 3) w1.heap.size 0 (.map []) rfl AM.out ?e1 _ _ (zhQ ak) rfl rfl (zgr ak hak) (.lit (.int .i64 ((P.length:Nat):Int))) [] ?e2 ?nexta))
     case e1=>unfold maxLen;omega
     case e2=>rw [<- LEN2.out];exact plainElem_int Tryz.underlying3 (WalkArith.wf_i64 (by have:=LEN2.out;omega))
     case nexta=>
      intro w3 am3 g3;clear cb cm fm EM hgb hgb2;have HL3:=ze HL2.out.symm;generalize (w1.setCell ⟨B2.g,ix*2,none⟩ (.map (some w1.heap.size))).alloc (.map #[] 0)=W2 at *;generalize hcsn:cs2.set ix (.map (some w1.heap.size),vv)=csn at *;generalize w1.heap.size=bm at *;have AM3:=ze am3;have G3:=ze g3;have hbm2:=(MH.out.blt (yg HK2.out) rfl);have hbmb:bm≠B2.b:=fun e=>(MH.out.ag _ _ (yg HK2.out)).2 (by rw [<- e];rfl);have hbmg:bm≠B2.g:=fun e=>(MH.out.ag _ _ (yg HK2.out)).1 (by rw [<- e];rfl);have cg3:Chg (·=bm) W2 w3:=(Chg.of_grown g3).mono (fun x _ e=>(Option.some.inj e).symm);have hb3:=cg3.obj (fun e=>hbmb e.symm) MH.out.hb;have hg3:=zn MH.out.hg cg3 (fun x hx e=>hbmg (by simp [Value.ownBlock] at hx;omega));have HG3:=ze hg3;have HB3:=ze hb3;have C3:=ze (CH.out.trans (cg3.mono (T:=fun x=>base<=x) (fun x _ e=>by have:=hbm2.1;omega)));have hsz3:=C3.out.size;have cb3:w3.cell? ⟨B2.b,0,none⟩=some (.slice (some ⟨B2.g,0,none⟩) csn.length B2.cap):=zf hb3 rfl;rw [BB.out] at cb3;clear am3 g3 cg3 hb3 hg3;go_wp2_with (at_builtin;refine Zq rfl (.tmp 70) (.tmp 72) 260 rfl 273 2 32 Tryz.underlying260 Tryz.elemState base _ _ _ rfl (HG3.out.alloc _) _ [.map none,.slice none 0 0] 273 (0,0) rfl (zh _ _) rfl ?f1 ?f2 ?f3 ?f4 ?nextb)
      case f1=>intro u hu;simp at hu;rcases hu with rfl | rfl <;> rfl
      case f2=>have:=MH.out.len;omega
      case f3=>unfold maxLen;have:=MH.out.len;omega
      case f4=>have h1:=MH.out.bb;have h2:=zr HB3.out;simp;omega
      case nextb=>
       intro v5 w5 o5 g5 s5;obtain ⟨g',cap',rfl,m6⟩:=MH.out.addEdge TP.out HP.out HK2.out HN.out HWH.out AM.out HNN.out SY.out AM3.out G3.out o5 g5 s5;have hb5:=(Chg.of_grown g5).obj (fun e=>MH.out.bg (Option.some.inj e).symm) (Ze (.cells #[.map none,.slice none 0 0] 273) HB3.out);have c5:w5.cell? ⟨B2.b,0,none⟩=some (.slice (some ⟨B2.g,0,none⟩) csn.length B2.cap):=zf hb5 rfl;have f5:w5.frozen? ⟨B2.b,0,none⟩=false:=zm hb5;have k5:Chg (fun x=>base<=x) w w5:=C3.out.trans (((zi _ w3 (.cells #[.map none,.slice none 0 0] 273)).trans ((Chg.of_grown g5).mono (T:=fun x=>base<=x) (fun x _ e=>by have h1:=MH.out.glt.1;have h2:B2.g=x:=Option.some.inj e;show base<=x;omega))));have K6:=ze (k5.trans ((zG w5 B2.b 0 (.slice (some ⟨g',0,none⟩) (csn.length+1) cap')).mono (T:=fun x=>base<=x) (fun x _ e=>by have:=MH.out.bb;omega)));have M6:=ze m6;rw [BB.out] at c5 f5 K6;rw [BB.out] at M6;have LN:=ze MH.out.len;have BNW:=ze BW.out;clear o5 g5 s5 m6 hb5 k5;go_wp2;go_roundw
       case rel=>
        refine ⟨k+1,by omega,by go_num,?_,⟨B.b,g',cap',B2.nw⟩,csn++[((.map none:Value),(.slice none 0 0:Value))],rfl,BNW.out,?_,K6.out⟩
        ·rw [PS1.out,TK1.out]
         have:=zeC HN.out;unfold Yp at this;rw [if_pos (by simp)] at this;rw [Option.some.inj this];rw [<- LEN2.out]
        ·rw [PS1.out];exact M6.out
       case measure=>simp [intOf];omega
    ·have SY:=ze (show zqq D (Yp P q) from hsy)
     have HNN:=ze hnn;have AM:=ze ham;have MH:=M1;have CH:=C1;have HK2:=HCC;clear hsy ham C1 HCC hbm;go_wp2_with (first | (at_lookup;refine zao rfl (.tmp 27) (.tmp 28) rfl base P.length (.map (some bm)) (Yp P q) rfl EM.out ak hak rfl ?_;intro c hc;clear hc) | (at_mapUpdate;refine wpList_mapUpdate_own _ rfl (.tmp 63) (.tmp 64) (.tmp 65) 271 rfl 62 3 Tryz.atomKeyed Tryz.underlying271 (plainElem Tryz.prog 3) bm nn D rfl AM.out ?c1 _ _ (zhQ ak) rfl rfl (zgr ak hak) (.lit (.int .i64 ((P.length:Nat):Int))) [] ?c2 ?next))
     case c1=>unfold maxLen;omega
     case c2=>rw [<- LEN2.out];exact plainElem_int Tryz.underlying3 (WalkArith.wf_i64 (by have:=LEN2.out;omega))
     case next=>
      intro w3 am3 g3;have AM3:=ze am3;have G3:=ze g3;have hbm2:=(MH.out.blt (yg HK2.out) rfl);have hbmb:bm≠B2.b:=fun e=>(MH.out.ag _ _ (yg HK2.out)).2 (by rw [<- e];rfl);have hbmg:bm≠B2.g:=fun e=>(MH.out.ag _ _ (yg HK2.out)).1 (by rw [<- e];rfl);have cg3:Chg (·=bm) w1 w3:=(Chg.of_grown g3).mono (fun x _ e=>(Option.some.inj e).symm);have hb3:=cg3.obj (fun e=>hbmb e.symm) MH.out.hb;have hg3:=zn MH.out.hg cg3 (fun x hx e=>hbmg (by simp [Value.ownBlock] at hx;omega));have HG3:=ze hg3;have HB3:=ze hb3;have C3:=ze (CH.out.trans (cg3.mono (T:=fun x=>base<=x) (fun x _ e=>by have:=hbm2.1;omega)));have hsz3:=C3.out.size;have cb3:w3.cell? ⟨B2.b,0,none⟩=some (.slice (some ⟨B2.g,0,none⟩) cs2.length B2.cap):=zf hb3 rfl;rw [BB.out] at cb3;clear am3 g3 cg3 hb3 hg3;go_wp2_with (at_builtin;refine Zq rfl (.tmp 70) (.tmp 72) 260 rfl 273 2 32 Tryz.underlying260 Tryz.elemState base _ _ _ rfl (HG3.out.alloc _) _ [.map none,.slice none 0 0] 273 (0,0) rfl (zh _ _) rfl ?d1 ?d2 ?d3 ?d4 ?next2)
      case d1=>intro u hu;simp at hu;rcases hu with rfl | rfl <;> rfl
      case d2=>have:=MH.out.len;omega
      case d3=>unfold maxLen;have:=MH.out.len;omega
      case d4=>have h1:=MH.out.bb;have h2:=zr HB3.out;simp;omega
      case next2=>
       intro v5 w5 o5 g5 s5;obtain ⟨g',cap',rfl,m6⟩:=MH.out.addEdge TP.out HP.out HK2.out HN.out HWH.out AM.out HNN.out SY.out AM3.out G3.out o5 g5 s5;have hb5:=(Chg.of_grown g5).obj (fun e=>MH.out.bg (Option.some.inj e).symm) (Ze (.cells #[.map none,.slice none 0 0] 273) HB3.out);have c5:w5.cell? ⟨B2.b,0,none⟩=some (.slice (some ⟨B2.g,0,none⟩) cs2.length B2.cap):=zf hb5 rfl;have f5:w5.frozen? ⟨B2.b,0,none⟩=false:=zm hb5;have k5:Chg (fun x=>base<=x) w w5:=C3.out.trans (((zi _ w3 (.cells #[.map none,.slice none 0 0] 273)).trans ((Chg.of_grown g5).mono (T:=fun x=>base<=x) (fun x _ e=>by have h1:=MH.out.glt.1;have h2:B2.g=x:=Option.some.inj e;show base<=x;omega))));have K6:=ze (k5.trans ((zG w5 B2.b 0 (.slice (some ⟨g',0,none⟩) (cs2.length+1) cap')).mono (T:=fun x=>base<=x) (fun x _ e=>by have:=MH.out.bb;omega)));have M6:=ze m6;rw [BB.out] at c5 f5 K6;rw [BB.out] at M6;have LN:=ze MH.out.len;have BNW:=ze BW.out;clear o5 g5 s5 m6 hb5 k5;go_wp2;go_roundw
       case rel=>
        refine ⟨k+1,by omega,by go_num,?_,⟨B.b,g',cap',B2.nw⟩,cs2++[((.map none:Value),(.slice none 0 0:Value))],rfl,BNW.out,?_,K6.out⟩
        ·rw [PS1.out,TK1.out]
         have:=zeC HN.out;unfold Yp at this;rw [if_pos (by simp)] at this;rw [Option.some.inj this];rw [<- LEN2.out]
        ·rw [PS1.out];exact M6.out
       case measure=>simp [intOf];omega
  ·obtain rfl:k=n:=by omega
   have TPE:=ze (show p.take k=p from List.take_of_length_le (by rw [PL.out];omega));have PM:=ze (XW HT.out p k);have TP:=ze (HT.out.putTo p k (by rw [PL.out];omega));rw [TPE.out] at PM ⊢;generalize hPP:putTo ps p k=P at *;have HPP:=ze hPP;clear hPP;have HP:=ze (zjy PM.out);obtain ⟨ix,hix⟩:∃ ix,P.idxOf p=ix:=⟨_,rfl⟩;rw [hix] at HP ⊢;have hixl:ix < P.length:=by rw [<- hix];exact List.idxOf_lt_length_of_mem PM.out
   clear hix;obtain ⟨c,hcc⟩:∃ c,cs2[ix]? = some c:=⟨_,zq0 (by rw [HM.out.len];exact hixl)⟩;obtain ⟨mv,vv⟩:=c;have HCC:=ze hcc;have hcl:ix < cs2.length:=by rw [HM.out.len];exact hixl
   clear hcc hlt hk;have cb:wr.cell? ⟨B2.b,0,none⟩=some (.slice (some ⟨B2.g,0,none⟩) cs2.length B2.cap):=zf HM.out.hb rfl;have cw:wr.cell? ⟨B2.g,ix*2+1,none⟩=some vv:=(HM.out.mcell HCC.out).2;rw [BB.out] at cb;have w1:IntKind.i64.wrap (ix:Int)=(ix:Int):=by rw [IntKind.wrap_i64];have:=HM.out.gRow;obtain ⟨_,_,h1,h2,_⟩:=this;unfold maxLen at h2;omega
   have b1:(0:Int)<=(ix:Int):=by omega
   have b2:(ix:Int) < (cs2.length:Int):=by omega
   go_wp2;refine Zk (N:=96) [.rd [0,1,2,3,4,5,6,7,8,9,10,11,12,13],.ef 14,.ef 15,.ef 16,.ef 17,.ef 18] 18 (fun w'=>w'.cell? ⟨B.b,0,none⟩=some (.slice (some ⟨B2.g,0,none⟩) cs2.length B2.cap)∧w'.cell? ⟨B2.g,ix*2+1,none⟩=some vv) (by kernel_rfl) (by kernel_rfl) (by kernel_rfl) (by kernel_rfl) (by kernel_rfl) (Nat.le_of_ble_eq_true rfl) ⟨cb,cw⟩ ?_;refine xu (A:=?A1) ?h1 ?h2
   case h1=>
    intro w' hS K hK;obtain ⟨s1,s2⟩:=hS;simp only [zM,zqT,zqU,zqV,zqW,zqX]
    repeat still_step
    refine wpStill_nil ?_;exact hK
   have M1:=ze (HM.out.chg (zw (fun _=>False) wr));have C1:=ze HC.out.drew;clear cb cw w1 HM HC;generalize wr.drew=wd at *;have cb:wd.cell? ⟨B2.b,0,none⟩=some (.slice (some ⟨B2.g,0,none⟩) cs2.length B2.cap):=zf M1.out.hb rfl;rw [BB.out] at cb;have cw:wd.cell? ⟨B2.g,ix*2+1,none⟩=some vv:=(M1.out.mcell HCC.out).2;have EW:=ze (M1.out.ew ix p _ HP.out HCC.out);have hbz:=zr M1.out.hb;have hbb:=M1.out.bb;refine zJ rfl ?_;go_wp2_with fail;have M2:=ze (M1.out.chg (zi (fun _=>False) wd (.cells #[.int .i64 (which:Int)] 3)));have cb2:(wd.alloc (.cells #[.int .i64 (which:Int)] 3)).cell? ⟨B2.b,0,none⟩=some (.slice (some ⟨B2.g,0,none⟩) cs2.length B2.cap):=zf M2.out.hb rfl;rw [BB.out] at cb2
   first | refine ⟨.inr ⟨cb2,(M2.out.mcell HCC.out).2⟩,?_⟩ | refine ⟨⟨cb2,(M2.out.mcell HCC.out).2⟩,?_⟩
   refine zJ rfl ?_;refine Zq rfl (.tmp 90) (.tmp 92) 36 rfl 3 1 8 Tryz.underlying36 Tryz.elemInt base _ _ _ rfl (EW.out.alloc _) _ [.int .i64 (which:Int)] 3 (0,0) rfl (zh _ _) rfl (by intro u hu;simp at hu;subst hu;rfl) (by omega) (by unfold maxLen;omega) (by simp;omega) ?_;intro v' w5 o5 g5 s5;have m6:=M2.out.addWord TP.out.nodup (k:=ix) (which:=which) HP.out HCC.out o5 g5 s5;have k5:Chg (fun x=>base<=x) w w5:=(C1.out.alloc (.cells #[.int .i64 (which:Int)] 3)).trans ((Chg.of_grown g5).mono (T:=fun x=>base<=x) (fun x _ e=>(EW.out.lt x e).1));obtain ⟨sa,sc,rfl⟩:=zl o5;have hvg:¬ (Value.ownBlock vv=some B2.g):=fun e=>(M2.out.ag _ _ (Xg HCC.out)).1 (yR e);have hvb:¬ (Value.ownBlock vv=some B2.b):=fun e=>(M2.out.ag _ _ (Xg HCC.out)).2 (yR e);have cb5:w5.cell? ⟨B2.b,0,none⟩=some (.slice (some ⟨B2.g,0,none⟩) cs2.length B2.cap):=zf ((Chg.of_grown g5).obj hvb M2.out.hb) rfl;rw [BB.out] at cb5;have cw5:w5.cell? ⟨B2.g,ix*2+1,none⟩=some vv:=zj (Chg.of_grown g5) hvg (M2.out.mcell HCC.out).2
   have fw5:w5.frozen? ⟨B2.g,ix*2+1,none⟩=false:=by
    obtain ⟨rest,hh,_⟩:=M2.out.gRow;exact zm ((Chg.of_grown g5).obj hvg hh)
   have M6:=ze m6;have K6:=ze (k5.trans ((zG w5 B2.g (ix*2+1) (.slice sa ((wh p).length+1) sc)).mono (T:=fun x=>base<=x) (fun x _ e=>by have:=M2.out.glt.1;show base<=x;omega)));clear o5 g5 s5 m6 k5 cb cw cb2;go_wp2_with fail
   first | refine ⟨.inr ⟨cb5,cw5⟩,?_⟩ | refine ⟨⟨cb5,cw5⟩,?_⟩
   refine zJ rfl ?_;go_wp2_with fail
   first | refine ⟨.inr ⟨cb5,cw5⟩,?_⟩ | refine ⟨⟨cb5,cw5⟩,?_⟩
   refine zJ rfl ?_;go_wp2_with fail
   first | refine ⟨.inr ⟨cb5,cw5⟩,?_⟩ | refine ⟨⟨cb5,cw5⟩,?_⟩
   refine zJ rfl ?_;refine ZR rfl 36 (.tmp 95) (.tmp 93) rfl B2.g (ix*2+1) rfl (.slice sa ((wh p).length+1) sc) rfl rfl rfl Tryz.sizeInts _ cw5 fw5 ?_;intro w7 hw7;rw [<- hw7] at M6 K6;clear hw7 cb5 cw5 fw5;refine ⟨.inl rfl,yA ?_⟩;go_wp2;go_end0;exact ⟨rfl,B2,_,BB.out,BW.out,by rw [HPP.out];exact M6.out,K6.out⟩
def zx (w:World) (v:Value) (G:Nat->Prop) (l:List ByteArray):Prop:=
 ∃ la cap,v=.slice la l.length cap∧l.length<=maxLen∧∀ (j:Nat) x,l[j]? = some x->∃ lb lo,la=some ⟨lb,lo,none⟩∧G lb∧w.cell? ⟨lb,lo+j,none⟩=some (.string x)∧x.size<=maxLen
theorem zx.chg {S:Nat->Prop} {w w':World} {v:Value} {G:Nat->Prop} {l:List ByteArray} (h:zx w v G l) (hc:Chg S w w') (hs:∀ k,G k->¬ S k):zx w' v G l:=by
 obtain ⟨la,cap,h1,h2,h3⟩:=h;exact ⟨la,cap,h1,h2,fun j x hj=>by obtain ⟨lb,lo,q1,q2,q3,q4⟩:=h3 j x hj;exact ⟨lb,lo,q1,q2,zj hc (hs lb q2) q3,q4⟩⟩
def ZC (l:List ByteArray):List (List UInt8):=l.map fun s=>s.data.toList
theorem zmg {l:List ByteArray} {j:Nat} {x:ByteArray} (h:l[j]? = some x):(ZC l).getD j []=x.data.toList:=by
 unfold ZC;rw [zq6,zrb,h];rfl
theorem zhh (l:List ByteArray):(ZC l).length=l.length:=by simp [ZC]
theorem YA (l:List (List UInt8)):∀ n,zhR (Zl l n)
 | 0=>zlo
 | n+1=>by
  rw [Zl];split
  ·exact (YA l n).putTo _ _ (zrj _)
  ·exact YA l n
theorem zbQ (l:List (List UInt8)):∀ n i,i < n->Zp (l.getD i [])=true->zT (l.getD i [])∈Zl l n
 | 0,i,h,_=>by omega
 | n+1,i,h,hm=>by
  rw [Zl];rcases Nat.lt_or_ge i n with q | q
  ·have ih:=zbQ l n i q hm
   split
   ·exact (zaW _ _ _ _).2 (.inl ih)
   ·exact ih
  ·obtain rfl:i=n:=by omega
   rw [if_pos hm];have:=XW (YA l i) (zT (l.getD i [])) (zT (l.getD i [])).length;rw [zrk] at this;exact this
theorem zgL (l:List (List UInt8)) (n:Nat) (q:List Nat) (h:q ∉ Zl l n):Zi l n q=[]:=by
 unfold Zi;rw [List.filter_eq_nil_iff];intro i hi hc;simp only [zrl,beq_iff_eq] at hc;exact h (hc.2 ▸ zbQ l n i (List.mem_range.1 hi) hc.1)
theorem zeX (l:List (List UInt8)) (n:Nat) (q:List Nat):(Zi l n q).length<=n:=by
 have:=List.length_filter_le (fun i=>Zp (l.getD i []) && (zT (l.getD i []) == q)) (List.range n)
 simpa [Zi] using this
theorem zh0 (l:List (List UInt8)) (n:Nat) (hm:Zp (l.getD n [])=true):Zi l (n+1)=fun q=>if q=zT (l.getD n []) then Zi l n q++[n] else Zi l n q:=by
 funext q
 unfold Zi;rw [List.range_succ,List.filter_append];by_cases e:q=zT (l.getD n [])
 ·rw [if_pos e];simp only [List.filter_cons,hm,e,beq_self_eq_true,Bool.and_self,if_true,List.filter_nil]
 ·rw [if_neg e]
  have:(zT (l.getD n []) == q)=false:=by rw [zq9];exact fun h=>e h.symm
  simp only [List.filter_cons,hm,this,Bool.and_false,Bool.false_eq_true,if_false,List.filter_nil,List.append_nil]
theorem zjW (l:List (List UInt8)) (n:Nat) (hm:Zp (l.getD n [])=false):Zi l (n+1)=Zi l n:=by
 funext q
 unfold Zi;rw [List.range_succ,List.filter_append];simp only [List.filter_cons,hm,Bool.false_and,Bool.false_eq_true,if_false,List.filter_nil,List.append_nil]
theorem XX (l:List (List UInt8)):∀ n,(Zl l n).length<=1+8*n
 | 0=>by simp [Zl]
 | n+1=>by
  have ih:=XX l n;rw [Zl];split
  ·rename_i hm
   have h8:(zT (l.getD n [])).length<=8:=by rw [zU];exact ((Zh _).1 hm).2.2.1
   have:=zaX (Zl l n) (zT (l.getD n [])) (zT (l.getD n [])).length;unfold zp8;omega
  ·omega
theorem zkC (w:World) (n:Nat) (l:List (List UInt8)):
  Zf ((w.alloc (.cells #[.map none,.slice none 0 0] 273)).alloc (.cells #[.slice (some ⟨w.heap.size,0,none⟩) 1 1,.int .i64 (n:Int)] 262)) w.heap.size ⟨w.heap.size+1,w.heap.size,1,n⟩ [(.map none,.slice none 0 0)] (Zl l 0) (Zi l 0):=by
 have e1:((w.alloc (.cells #[.map none,.slice none 0 0] 273)).alloc (.cells #[.slice (some ⟨w.heap.size,0,none⟩) 1 1,.int .i64 (n:Int)] 262)).heap[w.heap.size]? = some (.cells #[.map none,.slice none 0 0] 273 (0,0)):=Ze _ (zh _ _)
 have e2:((w.alloc (.cells #[.map none,.slice none 0 0] 273)).alloc (.cells #[.slice (some ⟨w.heap.size,0,none⟩) 1 1,.int .i64 (n:Int)] 262)).heap[w.heap.size+1]? = some (.cells #[.slice (some ⟨w.heap.size,0,none⟩) 1 1,.int .i64 (n:Int)] 262 (0,0)):=by
  have:=zh (w.alloc (.cells #[.map none,.slice none 0 0] 273)) (.cells #[.slice (some ⟨w.heap.size,0,none⟩) 1 1,.int .i64 (n:Int)] 262)
  simpa using this
 have one:∀ (k:Nat) p c,(Zl l 0)[k]? = some p->[((.map none:Value),(.slice none 0 0:Value))][k]? = some c->p=[]∧c=(.map none,.slice none 0 0):=by
  intro k p c h1 h2;rcases k with _ | k
  ·simp [Zl] at h1 h2;exact ⟨h1,h2.symm⟩
  ·simp at h2
 have blk:∀ (i:Nat) u,(YV [((.map none:Value),(.slice none 0 0:Value))])[i]? = some u->Zo u=none:=by
  intro i u h;have:=zq2 h;simp [YV] at this;rcases this with rfl | rfl <;> rfl
 refine ⟨e2,⟨by simp [YV],.inr ⟨w.heap.size,1,_,rfl,zrj _,e1,zrj _,by unfold maxLen;omega,rfl,rfl⟩⟩,rfl,?_,?_,?_,?_,by show w.heap.size+1≠w.heap.size;omega,by show w.heap.size<=w.heap.size+1;omega⟩
 ·intro k p c h1 h2
  obtain ⟨rfl,rfl⟩:=one k p c h1 h2;exact .inl ⟨rfl,fun a _=>by simp [Yp,Zl]⟩
 ·intro k p c h1 h2
  obtain ⟨rfl,rfl⟩:=one k p c h1 h2;exact World.ownsRow_nil _ _ _ _
 ·intro i j x u v h1 h2 h3
  rw [blk i u h1] at h3;cases h3
 ·intro i u h
  rw [blk i u h];exact ⟨(fun q=>by cases q),(fun q=>by cases q)⟩
theorem zpp (w:World) (v:Value) (l:List ByteArray) (hv:zx w v (· < w.heap.size) l) (hl:l.length<=410) (hs:∀ x∈l,x.size<=400):
  Calls Tryz.prog 168 #[v] w fun e w'=>∃ B cs,e=.returned (.pointer (some ⟨B.b,0,none⟩))∧B.nw=l.length∧Zf w' w.heap.size B cs (Zl (ZC l) l.length) (Zi (ZC l) l.length)∧Chg (fun _=>False) w w':=by
 obtain ⟨la,cap,rfl,_,hl3⟩:=hv;have HL3:=ze hl3;have HS:=ze hs;clear hl3 hs;have hmk:∀ w:World,(Instr.makeSlice 260 (.int .i64 1) (.int .i64 1)).run Tryz.prog w=.ok (.slice (some ⟨w.heap.size,0,none⟩) 1 1) (w.alloc (.cells #[.map none,.slice none 0 0] 273)):=fun _=>by kernel_rfl
 have MS:=ze (zkC w l.length (ZC l));have CS:=ze (((zi (fun _=>False) w (.cells #[.map none,.slice none 0 0] 273))).alloc (.cells #[.slice (some ⟨w.heap.size,0,none⟩) 1 1,.int .i64 (l.length:Int)] 262));go_enter Tryz.func168,Tryz.ntmps168;go_wp2;go_loopw [13] (fun iv wr=>∃ (k:Nat) (B:MB) (cs:List (Value × Value)),k<=l.length∧iv=.int .i64 k∧B.b=w.heap.size+1∧B.nw=l.length∧Zf wr w.heap.size B cs (Zl (ZC l) k) (Zi (ZC l) k)∧Chg (fun _=>False) w wr) (fun iv _=>l.length - (intOf iv).toNat)
 case atStart=>exact ⟨0,⟨w.heap.size+1,w.heap.size,1,l.length⟩,_,by omega,rfl,rfl,rfl,MS.out,CS.out⟩
 case round=>
  obtain ⟨k,B,cs,hk,rfl,hb,hw,hm,hc⟩:=hrel;have HB:=ze hb;have HW:=ze hw;have HM:=ze hm;have HC:=ze hc;clear hb hw hm hc MS CS;by_cases hlt:k < l.length
  ·obtain ⟨x,hx⟩:∃ x,l[k]? = some x:=⟨_,zq0 hlt⟩
   obtain ⟨lb,lo,rfl,hlb,c0,_⟩:=HL3.out k x hx;have c1:=zj HC.out (fun e=>e) c0;have hx4:=HS.out x (zq2 hx);have GX:=ze (zmg hx);clear c0 hx;have MAY:=ze (fun w=>zap w x (by unfold maxLen;omega));by_cases hm:Zp x.data.toList=true
   ·rw [hm] at MAY
    have PN:=ze (show Zl (ZC l) (k+1)=zp8 (Zl (ZC l) k) (zT x.data.toList) by rw [Zl,GX.out,if_pos hm])
    have WN:=ze (show Zi (ZC l) (k+1)=fun q=>if q=zT x.data.toList then Zi (ZC l) k q++[k] else Zi (ZC l) k q by
     have:=zh0 (ZC l) k (by rw [GX.out];exact hm);rw [GX.out] at this;exact this)
    have hpl:=XX (ZC l) k;go_wp2_with fail;refine (MAY.out wr).mono ?_;rintro e w1 ⟨rfl,k1⟩;have M1:=ze (HM.out.chg k1);have C1:=ze (HC.out.trans k1);have PUT:=ze (zpi w1 w.heap.size B cs (Zl (ZC l) k) (Zi (ZC l) k) k x M1.out (YA (ZC l) k) hx4 (by omega) (fun q hq=>zgL (ZC l) k q hq) (by have:=zeX (ZC l) k (zT x.data.toList);omega));rw [HB.out] at PUT;clear k1 hm HM HC;go_wp2_with fail;refine (PUT.out).mono ?_;rintro e w2 ⟨rfl,B',cs',hb',hw',m2,k2⟩;have M2:=ze m2;have C2:=ze (show Chg (fun _=>False) w w2 from ⟨k2.os.trans C1.out.os,k2.tape.trans C1.out.tape,k2.output.trans C1.out.output,Nat.le_trans C1.out.size k2.size,fun i hi _=>by rw [k2.block i (by have:=C1.out.size;omega) (by omega)];exact C1.out.block i hi (fun e=>e)⟩);have HB2:=ze hb';have HW2:=ze hw';clear hb' hw' m2 k2;go_wp2;go_roundw
    case rel=>exact ⟨k+1,B',cs',by omega,by go_num,HB2.out,HW2.out.trans HW.out,by rw [PN.out,WN.out];exact M2.out,C2.out⟩
    case measure=>simp [intOf];omega
   ·have hm:Zp x.data.toList=false:=by simpa using hm
    rw [hm] at MAY;have PN:=ze (show Zl (ZC l) (k+1)=Zl (ZC l) k by rw [Zl,GX.out,hm];rfl);have WN:=ze (zjW (ZC l) k (by rw [GX.out];exact hm));go_wp2_with fail;refine (MAY.out wr).mono ?_;rintro e w1 ⟨rfl,k1⟩;have M1:=ze (HM.out.chg k1);have C1:=ze (HC.out.trans k1);clear k1 hm;go_wp2;go_roundw
    case rel=>exact ⟨k+1,B,cs,by omega,by go_num,HB.out,HW.out,by rw [PN.out,WN.out];exact M1.out,C1.out⟩
    case measure=>simp [intOf];omega
  ·obtain rfl:k=l.length:=by omega
   go_wp2;go_ret;exact ⟨B,cs,by rw [HB.out];rfl,HW.out,HM.out,HC.out⟩
end Go.Proofs.YthdfplafihmejaaGreat
