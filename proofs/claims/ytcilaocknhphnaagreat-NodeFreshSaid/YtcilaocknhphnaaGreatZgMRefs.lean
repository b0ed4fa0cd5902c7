/-
  Words in plain Lean: the atoms of a word, which words may be, where words stand in a word. No program in sight. Words, by atoms and by bytes. Layer 10: a word that is in the list twice (plain). Layer 10: hits stand where they say, and rise (plain). Layer 10: what stands in a word stands in it with more ahead and behind (plain). Layer 11: what words lead to by rules (plain). Layer 11: what the row of a word is (plain): just what is reached, each once; or more than the bound is reached. Layer 11: what follows for rows (plain): on, more rules, what stands around. Layer 11: the steps from a word to another one (plain). Package word: Len, odd, At, May, each by a contract over the plain model. Package match: a machine where it lies: states, each with a map of atoms and a list of words; what its blocks are, and what each step of put leaves. Package match: what each step of put leaves of a machine. Package match: a state more. Package match: put. Package match: New. Sets of words: Less, May, Has, Equal, of the program and of the reference. slices.Sort at []int: by the shelf's contract, over a row of the call's own. Where words stand: what the machine collects at a place, sorted, is the list of the words that begin there. Package match: here. Package match: All, First, Len. The reference's Atoms and May. The reference's May. Lists of hits, to be read. The reference's Of. What the arguments' readings say, in the words of the walks: words, and slices of words. Slices of words: append, and what is owned. Maps of plain elements, in any program: what a map's block says of each key; lookups, stores, deletions.
-/
import Derived.Test.YtcilaocknhphnaaGreatZgKit2
import Derived.Maps.Own
import Derived.Maps.OwnOps
import Derived.Maps.OwnSet
import Derived.Maps.Views
import Derived.WalkSpells
import Derived.Carry
import Derived.Ground.NamesProg
import Derived.Shelf.Lay
import Derived.Shelf.Sort.Plain
import Derived.Shelf.Slices.In.SortNone
import Derived.Laws.AppendOwnNone
import Derived.Laws.BytesString
import Derived.Laws.BytesArg
import Derived.Test.YtcilaocknhphnaaGreatRows
import Derived.ProofKit
import Derived.OpenShut
import Derived.ShutString
import Derived.ChangeOld
import Derived.Deep.Slices
import Derived.Maps.RangeWalk
namespace Go.Proofs.YtcilaocknhphnaaGreat

def zL (l:List UInt8) (i:Nat):Nat:=(l.getD (2*i) 0).toNat*256+(l.getD (2*i+1) 0).toNat
def zI (l:List UInt8):Nat:=l.length / 2
def ZP (l:List UInt8):List Nat:=(List.range (zI l)).map (zL l)
def ZZ (l:List UInt8):Bool:=decide (l.length % 2=0) && decide (1<=zI l) && decide (zI l<=8) && (ZP l).all (fun a=>a != 0)
theorem ye (l:List UInt8) (i:Nat):zL l i < 65536:=by
 unfold zL;have:=(l.getD (2*i) 0).toNat_lt;have:=(l.getD (2*i+1) 0).toNat_lt;omega
theorem Zy (l:List UInt8):(ZP l).length=zI l:=by simp [ZP]
theorem yz (l:List UInt8) {i:Nat} (h:i < zI l):(ZP l)[i]? = some (zL l i):=by
 unfold ZP;rw [List.getElem?_map,List.getElem?_range h];rfl
theorem zaV (l:List UInt8) {i:Nat} (h:i < zI l):(ZP l).take (i+1)=(ZP l).take i++[zL l i]:=by
 have hl:i < (ZP l).length:=by rw [Zy];exact h
 rw [List.take_succ_eq_append_getElem hl];have:=yz l h;rw [List.getElem?_eq_getElem hl] at this;rw [Option.some.inj this]
theorem Zr (l:List UInt8):ZZ l=true↔l.length % 2=0∧1<=zI l∧zI l<=8∧∀ i,i < zI l->zL l i≠0:=by
 unfold ZZ;simp only [Bool.and_eq_true,decide_eq_true_eq,List.all_eq_true,bne_iff_ne];constructor
 ·rintro ⟨⟨⟨h1,h2⟩,h3⟩,h4⟩
  exact ⟨h1,h2,h3,fun i hi=>h4 _ (List.mem_of_getElem? (yz l hi))⟩
 ·rintro ⟨h1,h2,h3,h4⟩
  refine ⟨⟨⟨h1,h2⟩,h3⟩,fun a ha=>?_⟩;obtain ⟨i,hi,rfl⟩:=List.mem_map.1 ha;exact h4 i (List.mem_range.1 hi)
def zgh (v w:List UInt8) (at_:Nat):Bool:=ZZ v && (ZP v).isPrefixOf ((ZP w).drop at_)
def zkT (l:List (List UInt8)) (w:List UInt8) (at_:Nat):List Nat:=(List.range l.length).filter fun i=>zgh (l.getD i []) w at_
def ziY (l:List (List UInt8)) (w:List UInt8) (n:Nat):List (Nat × Nat):=(List.range n).flatMap fun a=>(zkT l w a).map fun i=>(a,i)
def zkS (l:List (List UInt8)) (w:List UInt8):List (Nat × Nat):=ziY l w (zI w)
structure zlf (ps:List (List Nat)):Prop where
 root:ps[0]? = some []
 nodup:ps.Nodup
 down:∀ p a,p++[a]∈ps->p∈ps
def cnt (N:Nat) (l:List (Nat × Nat)):Nat:=l.countP fun h=>h.2 == N
abbrev Wd:=List UInt8
abbrev Rul:=Wd × Wd
def zhi (r:Rul):Bool:=ZZ r.1 && ZZ r.2 && decide (zI r.2<=zI r.1)
def zjx (R:List Rul):List Wd:=R.map fun r=>if zhi r then r.1 else []
def YV (w:Wd) (a n:Nat) (v:Wd):Wd:=w.take (2*a)++v++w.drop (2*(a+n))
def zbc (R:List Rul) (k:Nat):Rul:=R.getD k ([],[])
def zjZ (R:List Rul) (w:Wd) (h:Nat × Nat):Wd:=YV w h.1 (zI (zbc R h.2).1) (zbc R h.2).2
def zdD (R:List Rul) (w:Wd):List ((Nat × Nat) × Wd):=(zkS (zjx R) w).map fun h=>(h,zjZ R w h)
abbrev Ent:=Wd × (Int × (Nat × Nat))
def YU (r:List Ent):List Wd:=r.map (·.1)
def zeO (bound i:Nat):List ((Nat × Nat) × Wd)->List Ent->Option (List Ent)
 | [],r=>some r
 | (s,v) :: t,r=>if v∈YU r then zeO bound i t r else if r.length=bound then none else zeO bound i t (r++[(v,((i:Int),s))])
def zcx (r:List Ent) (i:Nat):Wd:=(r.getD i ([],(0,(0,0)))).1
def zeF (R:List Rul) (bound:Nat):Nat->Nat->List Ent->Option (List Ent)
 | 0,_,r=>some r
 | f+1,i,r=>if i < r.length then (zeO bound i (zdD R (zcx r i)) r).bind (zeF R bound f (i+1)) else some r
def zj1 (w:Wd):List Ent:=[(w,(-1,(0,0)))]
def zjj (R:List Rul) (w:Wd) (bound:Nat):Option (List Ent):=zeF R bound bound 0 (zj1 w)
def zi4 (R:List Rul) (u v:Wd):Prop:=∃ h,(h,v)∈zdD R u
inductive Reach (R:List Rul) (w:Wd):Wd->Prop
 | refl:Reach R w w
 | tail {u v:Wd}:Reach R w u->zi4 R u v->Reach R w v
structure zle (R:List Rul) (w:Wd) (b i:Nat) (r:List Ent):Prop where
 nodup:(YU r).Nodup
 len:r.length<=b
 start:w∈YU r
 reach:∀ v∈YU r,Reach R w v
 closed:∀ j,j < i->j < r.length->∀ v,zi4 R (zcx r j) v->v∈YU r
theorem Xh {α:Type} [DecidableEq α]:∀ {l m:List α},l.Nodup->(∀ x∈l,x∈m)->l.length<=m.length
 | [],m,_,_=>by simp
 | a :: l,m,hn,h=>by
  rw [List.nodup_cons] at hn;have ha:a∈m:=h a List.mem_cons_self;have:=Xh (l:=l) (m:=m.erase a) hn.2 (fun x hx=>(List.mem_erase_of_ne (fun e=>hn.1 (by rw [<- e];exact hx))).2 (h x (List.mem_cons_of_mem _ hx)));rw [List.length_erase_of_mem ha] at this;have:=List.length_pos_of_mem ha;simp only [List.length_cons];omega
def zjA (r:List Ent) (i:Nat):Ent:=r.getD i ([],(0,(0,0)))
structure zln (R:List Rul) (w:Wd) (r:List Ent):Prop where
 first:zjA r 0=(w,(-1,(0,0)))
 pos:0 < r.length
 back:∀ j,0 < j->j < r.length->∃ i:Nat,i < j∧(zjA r j).2.1=(i:Int)∧((zjA r j).2.2,zcx r j)∈zdD R (zcx r i)
open Go.RowKit
theorem yf (w:World) (s:ByteArray) (hs:s.size<=maxLen):
  Calls Tryz.prog 247 #[.string s] w fun e w'=>e=.returned (.int .i64 (zI s.data.toList:Nat))∧w=w':=by
 unfold maxLen at hs;have HE:=zf (show zI s.data.toList=s.size / 2 by unfold zI;rw [zz]);go_enter Tryz.func247,Tryz.ntmps247;go_wp2;go_ret;refine ⟨?_,rfl⟩;rw [HE.out];show Ending.returned (.int .i64 ((s.size:Int) / 2))=_
 congr 2
theorem zhO (w:World) (s:ByteArray) (hs:s.size<=maxLen) (h:s.size % 2≠0):
  Calls Tryz.prog 246 #[.string s] w fun e w'=>e=.returned (.bool true)∧w=w':=by
 unfold maxLen at hs;have h1:((s.size:Int) % 2 != 0)=true:=by rw [zlN];omega
 clear h;go_enter Tryz.func246,Tryz.ntmps246;go_wp2;go_ret;exact ⟨rfl,rfl⟩
theorem zdz (w:World) (s:ByteArray) (hs:s.size<=maxLen) (h:s.size % 2=0):
  Calls Tryz.prog 246 #[.string s] w fun e w'=>e=.returned (.bool false)∧w=w':=by
 unfold maxLen at hs;have h1:((s.size:Int) % 2 != 0)=false:=by rw [zlO];omega
 clear h;go_enter Tryz.func246,Tryz.ntmps246;go_wp2;go_ret;exact ⟨rfl,rfl⟩
theorem zkc (a c:Nat) (ha:a < 256) (hc:c < 256):bits BinOp.or IntKind.u16 ((a*256:Nat):Int) (c:Int)=((a*256+c:Nat):Int):=by
 have h1:(BitVec.ofInt 16 ((a*256:Nat):Int)).toNat=a*256:=by
  rw [BitVec.ofInt_natCast,BitVec.toNat_ofNat];exact Nat.mod_eq_of_lt (by omega)
 have h2:(BitVec.ofInt 16 (c:Int)).toNat=c:=by
  rw [BitVec.ofInt_natCast,BitVec.toNat_ofNat];exact Nat.mod_eq_of_lt (by omega)
 show IntKind.u16.wrap ((BitVec.ofInt 16 ((a*256:Nat):Int) ||| BitVec.ofInt 16 (c:Int)).toNat:Int)=_;rw [BitVec.toNat_or,h1,h2,nat_join 8 (a*256) c (by simp) (by omega)];show ((a*256+c:Nat):Int) % 65536=_;omega
theorem zjo (x y:Nat) (hx:x < 256) (hy:y < 256):bits BinOp.or IntKind.u16 (IntKind.u16.wrap (IntKind.u16.wrap (x:Int)*256)) (IntKind.u16.wrap (y:Int))=((x*256+y:Nat):Int):=by
 have e1:IntKind.u16.wrap (x:Int)=(x:Int):=by show (x:Int) % 65536=_;omega
 have e2:IntKind.u16.wrap (y:Int)=(y:Int):=by show (y:Int) % 65536=_;omega
 have e3:IntKind.u16.wrap ((x:Int)*256)=((x*256:Nat):Int):=by show ((x:Int)*256) % 65536=_;omega
 rw [e1,e2,e3,zkc x y hx hy]
def Zo (w w':World):Prop:=∃ n,w'=w.drewN n
theorem Zo.refl (w:World):Zo w w:=⟨0,rfl⟩
theorem Zo.drew (w:World):Zo w w.drew:=⟨1,rfl⟩
theorem Zo.trans {a b c:World} (h:Zo a b) (k:Zo b c):Zo a c:=by
 obtain ⟨n,rfl⟩:=h;obtain ⟨m,rfl⟩:=k;exact ⟨n+m,World.drewN_drewN _ _ _⟩
theorem Zo.chg {S:Nat->Prop} {a b:World} (h:Zo a b):Chg S a b:=by
 obtain ⟨n,rfl⟩:=h;exact (Chg.refl S a).drewN n
set_option maxRecDepth 100000 in
theorem zjY (w:World) (s:ByteArray) (k:Nat) (hs:s.size<=maxLen) (hk:k < zI s.data.toList):
  Calls Tryz.prog 248 #[.string s,.int .i64 k] w fun e w'=>e=.returned (.int .u16 (zL s.data.toList k:Nat))∧Zo w w':=by
 have LEN:=zf (yf w s hs);unfold maxLen at hs;have h2:2*k+1 < s.size:=by unfold zI at hk;rw [zz] at hk;omega
 obtain ⟨x,hx,qx⟩:∃ x,x < 256∧(s[2*k]'(by omega)).toNat=x:=⟨_,UInt8.toNat_lt _,rfl⟩;obtain ⟨y,hy,qy⟩:∃ y,y < 256∧(s[2*k+1]'(by omega)).toNat=y:=⟨_,UInt8.toNat_lt _,rfl⟩
 have HA:=zf (show zL s.data.toList k=x*256+y by
  have hsl:=zz s;unfold zL;rw [zlF,zlz (by omega),zlF,zlz (by omega),<- qx,<- qy];rfl)
 generalize zI s.data.toList=n at *;generalize zL s.data.toList k=av at *;have g0:decide ((k:Int) < 0)=false:=by rw [decide_eq_false_iff_not];omega
 have g1:decide (n<=k)=false:=by rw [decide_eq_false_iff_not];omega
 have a1:IntKind.i64.wrap (2*(k:Int))=2*(k:Int):=by rw [IntKind.wrap_i64];omega
 have a2:IntKind.i64.wrap (2*(k:Int)+1)=2*(k:Int)+1:=by rw [IntKind.wrap_i64];omega
 have b1:0<=2*(k:Int):=by omega
 have b2:2*(k:Int) < (s.size:Int):=by omega
 have b3:0<=2*(k:Int)+1:=by omega
 have b4:2*(k:Int)+1 < (s.size:Int):=by omega
 have t1:(2*(k:Int)).toNat=2*k:=by omega
 have t2:(2*(k:Int)+1).toNat=2*k+1:=by omega
 go_enter Tryz.func248,Tryz.ntmps248;go_wp2_with fail;refine (LEN.out).mono ?_;rintro e w' ⟨rfl,rfl⟩;go_wp2;refine zP (by kernel_rfl) (by kernel_rfl) ?_
 repeat still_step
 refine wpStill_nil ?_;go_wp2;go_ret;refine ⟨?_,Zo.drew _⟩;show Ending.returned (.int .u16 (bits BinOp.or IntKind.u16 (IntKind.u16.wrap (IntKind.u16.wrap (x:Int)*256)) (IntKind.u16.wrap (y:Int))))=_;rw [zjo x y hx hy,HA.out]
theorem zid {l:List UInt8} (h:l.length % 2≠0):ZZ l=false:=by
 rw [<- zlW,Zr];exact fun q=>h q.1
theorem zic {l:List UInt8} (h:¬ (1<=zI l∧zI l<=8)):ZZ l=false:=by
 rw [<- zlW,Zr];exact fun q=>h ⟨q.2.1,q.2.2.1⟩
theorem zeM {l:List UInt8} {i:Nat} (hi:i < zI l) (h:zL l i=0):ZZ l=false:=by
 rw [<- zlW,Zr];exact fun q=>q.2.2.2 i hi h
theorem ziT (w:World) (s:ByteArray) (hs:s.size<=maxLen):
  Calls Tryz.prog 193 #[.string s] w fun e w'=>e=.returned (.bool (ZZ s.data.toList))∧Zo w w':=by
 have hsl:=zz s;have LEN:=zf (fun w=>yf w s hs);by_cases ho:s.size % 2=0
 ·have ODD:=zf (zdz w s hs ho)
  by_cases hb:1<=zI s.data.toList∧zI s.data.toList<=8
  ·obtain ⟨hb1,hb2⟩:=hb
   have AT:=zf (fun w k hk=>zjY w s k hs hk);have MB:=zf (show ∀ n,n=zI s.data.toList->(∀ i,i < n->zL s.data.toList i≠0)->ZZ s.data.toList=true from fun n hn h=>(Zr _).2 ⟨by rw [hsl];exact ho,hb1,hb2,fun i hi=>h i (by omega)⟩);have MN:=zf (show ∀ i,i < zI s.data.toList->zL s.data.toList i=0->ZZ s.data.toList=false from fun i hi h=>zeM hi h);clear hs hsl ho;have HN:=zf (show zI s.data.toList=zI s.data.toList from rfl);generalize hn:zI s.data.toList=n at *;have NN:=zf hn;clear hn HN;have g1:decide ((n:Int) < 1)=false:=by rw [decide_eq_false_iff_not];omega
   have g2:decide (8 < (n:Int))=false:=by rw [decide_eq_false_iff_not];omega
   go_enter Tryz.func193,Tryz.ntmps193;go_wp2_with fail;refine (ODD.out).mono ?_;rintro e w' ⟨rfl,rfl⟩;go_wp2_with fail;refine (LEN.out _).mono ?_;rintro e w' ⟨rfl,rfl⟩;go_wp2_with fail;refine (LEN.out _).mono ?_;rintro e w' ⟨rfl,rfl⟩;go_wp2_with fail;refine (LEN.out _).mono ?_;rintro e w' ⟨rfl,rfl⟩;go_wp2;go_loopw [18] (fun i wr=>∃ k:Nat,k<=n∧i=.int .i64 k∧Hid (∀ i,i < k->zL s.data.toList i≠0)∧Zo w wr) (fun i _=>n - (intOf i).toNat)
   case atStart=>exact ⟨0,by omega,rfl,zf (fun i hi=>by omega),Zo.refl _⟩
   case round=>
    obtain ⟨k,hk,rfl,HZ,hc⟩:=hrel;have HC:=zf hc;clear hc;by_cases hlt:k < n
    ·go_wp2_with fail
     refine (AT.out wr k hlt).mono ?_;rintro e w1 ⟨rfl,c1⟩;have C1:=zf (HC.out.trans c1);clear c1;have hal:=ye s.data.toList k;by_cases hz:zL s.data.toList k=0
     ·have HF:=zf (MN.out k hlt hz)
      rw [hz];go_wp2;go_ret;exact ⟨by rw [HF.out];rfl,C1.out⟩
     ·have hz1:(((zL s.data.toList k:Nat):Int) == 0)=false:=by rw [zlI];omega
      have HZ2:=zf (show ∀ i,i < k+1->zL s.data.toList i≠0 from fun i hi=>by
       rcases Nat.lt_or_ge i k with q | q
       ·exact HZ.out i q
       ·obtain rfl:i=k:=by omega
        exact hz)
      clear hz;generalize zL s.data.toList k=ak at *;go_wp2;go_roundw
      case rel=>exact ⟨k+1,by omega,by go_num,HZ2,C1.out⟩
      case measure=>simp [intOf];omega
    ·obtain rfl:k=n:=by omega
     have HT:=zf (MB.out k rfl HZ.out);go_wp2;go_ret;exact ⟨by rw [HT.out];rfl,HC.out⟩
  ·have HF:=zf (zic hb)
   clear hs hsl ho;generalize zI s.data.toList=n at *;by_cases h1:n < 1
   ·clear hb
    go_enter Tryz.func193,Tryz.ntmps193;go_wp2_with fail;refine (ODD.out).mono ?_;rintro e w' ⟨rfl,rfl⟩;go_wp2_with fail;refine (LEN.out _).mono ?_;rintro e w' ⟨rfl,rfl⟩;go_wp2;go_ret;exact ⟨by rw [HF.out];rfl,Zo.refl _⟩
   ·have h2:8 < n:=by omega
    have g1:decide ((n:Int) < 1)=false:=by rw [decide_eq_false_iff_not];omega
    have g2:decide (8 < (n:Int))=true:=by rw [decide_eq_true_eq];omega
    clear hb h1;go_enter Tryz.func193,Tryz.ntmps193;go_wp2_with fail;refine (ODD.out).mono ?_;rintro e w' ⟨rfl,rfl⟩;go_wp2_with fail;refine (LEN.out _).mono ?_;rintro e w' ⟨rfl,rfl⟩;go_wp2_with fail;refine (LEN.out _).mono ?_;rintro e w' ⟨rfl,rfl⟩;go_wp2;go_ret;exact ⟨by rw [HF.out];rfl,Zo.refl _⟩
 ·have ODD:=zf (zhO w s hs ho)
  have HF:=zf (zid (l:=s.data.toList) (by rw [hsl];exact ho));clear hs hsl ho LEN;go_enter Tryz.func193,Tryz.ntmps193;go_wp2_with fail;refine (ODD.out).mono ?_;rintro e w' ⟨rfl,rfl⟩;go_wp2;go_ret;exact ⟨by rw [HF.out];rfl,Zo.refl _⟩
theorem ziU (w:World) (s:ByteArray) (k:Nat) (hs:s.size<=maxLen) (hk:k < zI s.data.toList):
  Calls Tryz.prog 248 #[.string s,.int .i64 k] w fun e w'=>e=.returned (.int .u16 (zL s.data.toList k:Nat))∧Chg (fun _=>False) w w':=
 (zjY w s k hs hk).mono fun _ _ ⟨he,hc⟩=>⟨he,hc.chg⟩
theorem xg (w:World) (s:ByteArray) (hs:s.size<=maxLen):
  Calls Tryz.prog 193 #[.string s] w fun e w'=>e=.returned (.bool (ZZ s.data.toList))∧Chg (fun _=>False) w w':=
 (ziT w s hs).mono fun _ _ ⟨he,hc⟩=>⟨he,hc.chg⟩
open Go.Maps
theorem Tryz.atomKeyed:Keyed Tryz.prog 58:=int_keyed Tryz.underlying58
theorem Tryz.zeroInt (w:World):(zeroValue 3).run Tryz.prog w=.ok (.int .i64 0) w:=by kernel_rfl
def XU (a:Nat):Lit:=.int .u16 (a:Int)
theorem XG (a:Nat) (h:a < 65536):keyOf Tryz.prog 58 (.int .u16 (a:Int))=some (XU a):=
 keyOf_int_mk Tryz.underlying58 (by simp only [Lit.wf,zlU,decide_eq_true_eq];exact ⟨by show (0:Int)<=_;omega,by show _<=(65535:Int);omega⟩)
theorem zeV {a b:Nat} (h:XU a=XU b):a=b:=by
 simp only [XU,Lit.int.injEq,true_and] at h;omega
abbrev zlk (w:World) (bm n:Nat) (D:DataW Unit):Prop:=w.ownsMap Tryz.prog 58 (plainElem Tryz.prog 3) bm n D
def zjN (w:World) (base L:Nat) (mv:Value) (f:Nat->Option Nat):Prop:=
 (mv=.map none∧∀ a,a < 65536->f a=none) ∨
 ∃ bm n D,mv=.map (some bm)∧base<=bm∧zlk w bm n D∧n<=L∧∀ a,a < 65536->Maps.has D (XU a)=(f a).isSome∧∀ j,f a=some j->D.atKey (XU a) (.lit (.int .i64 0))=.lit (.int .i64 (j:Int))
def zad (cs:List (Value × Value)):List Value:=cs.flatMap fun c=>[c.1,c.2]
def zac (l:List Nat):List Value:=l.map fun (n:Nat)=>.int .i64 (n:Int)
def zaT:Value->Option Nat
 | .map r=>r
 | .slice (some a) _ _=>some a.block
 | _=>none
def zks (ps:List (List Nat)) (p:List Nat) (a:Nat):Option Nat:=if p++[a]∈ps then some (ps.idxOf (p++[a])) else none
structure MB where
 b:Nat
 g:Nat
 cap:Nat
 nw:Nat
structure zk9 (w:World) (base:Nat) (B:MB) (cs:List (Value × Value)) (ps:List (List Nat)) (wh:List Nat->List Nat):Prop where
 hb:w.heap[B.b]? = some (.cells #[.slice (some ⟨B.g,0,none⟩) cs.length B.cap,.int .i64 B.nw] 544 (0,0))
 hg:w.ownsRow base 549 2 (.slice (some ⟨B.g,0,none⟩) cs.length B.cap) cs.length (zad cs)
 len:cs.length=ps.length
 em:∀ (k:Nat) p c,ps[k]? = some p->cs[k]? = some c->zjN w base ps.length c.1 (zks ps p)
 ew:∀ (k:Nat) p c,ps[k]? = some p->cs[k]? = some c->w.ownsRow base 3 1 c.2 (wh p).length (zac (wh p))
 ap:∀ (i j x:Nat) u v,(zad cs)[i]? = some u->(zad cs)[j]? = some v->zaT u=some x->zaT v=some x->i=j
 ag:∀ (i:Nat) u,(zad cs)[i]? = some u->zaT u≠some B.g∧zaT u≠some B.b
 bg:B.b≠B.g
 bb:base<=B.b
theorem Tryz.elemState:Zc Tryz.prog 549 2 32:=zX (z:=.agg #[.map none,.slice none 0 0]) (by kernel_rfl) rfl (by decide)
theorem Tryz.elemInt:Zc Tryz.prog 3 1 8:=zX (z:=.int .i64 0) (by kernel_rfl) rfl (by decide)
theorem Tryz.sizeInts:(Tryz.prog.info? 226).map (·.size)=some 1:=by kernel_rfl
def zV (w:World) (v:Value) (G:Nat->Prop) (l:List ByteArray):Prop:=
 ∃ la cap,v=.slice la l.length cap∧l.length<=maxLen∧∀ (j:Nat) x,l[j]? = some x->∃ lb lo,la=some ⟨lb,lo,none⟩∧G lb∧w.cell? ⟨lb,lo+j,none⟩=some (.string x)∧x.size<=maxLen
theorem zV.chg {S:Nat->Prop} {w w':World} {v:Value} {G:Nat->Prop} {l:List ByteArray} (h:zV w v G l) (hc:Chg S w w') (hs:∀ k,G k->¬ S k):zV w' v G l:=by
 obtain ⟨la,cap,h1,h2,h3⟩:=h;exact ⟨la,cap,h1,h2,fun j x hj=>by obtain ⟨lb,lo,q1,q2,q3,q4⟩:=h3 j x hj;exact ⟨lb,lo,q1,q2,zj hc (hs lb q2) q3,q4⟩⟩
def ZT (l:List ByteArray):List (List UInt8):=l.map fun s=>s.data.toList
theorem zcY (l:List ByteArray):(ZT l).length=l.length:=by simp [ZT]
def Zs (a b:Wd):Bool:=if a.length=b.length then Op.bytesLess a b else decide (a.length < b.length)
theorem zas (w:World) (a b:ByteArray):
  Calls Tryz.prog 235 #[.string a,.string b] w fun e w'=>e=.returned (.bool (Zs a.data.toList b.data.toList))∧w=w':=by
 by_cases h:a.size=b.size
 ·have RES:=zf (show Zs a.data.toList b.data.toList=Op.bytesLess a.toList b.toList by
   unfold Zs;rw [zz,zz,if_pos h,ByteArray.toList_eq,ByteArray.toList_eq])
  have hne:((a.size:Int) != (b.size:Int))=false:=by rw [zlO];omega
  have hne2:((a.size:Int) == (b.size:Int))=true:=by rw [beq_iff_eq];omega
  clear h;go_enter Tryz.func235,Tryz.ntmps235;go_wp2;go_ret;exact ⟨by rw [RES.out];rfl,rfl⟩
 ·have RES:=zf (show Zs a.data.toList b.data.toList=decide (a.size < b.size) by
   unfold Zs;rw [zz,zz,if_neg h])
  have hne:((a.size:Int) != (b.size:Int))=true:=by rw [zlN];omega
  have hne2:((a.size:Int) == (b.size:Int))=false:=by rw [zlI];omega
  clear h;go_enter Tryz.func235,Tryz.ntmps235;go_wp2;go_ret;exact ⟨by rw [RES.out];rfl,rfl⟩
theorem zgR {a b:Wd} {i:Nat} {x y:UInt8} (hx:a[i]? = some x) (hy:b[i]? = some y):Op.bytesLess (a.drop i) (b.drop i)=if x=y then Op.bytesLess (a.drop (i+1)) (b.drop (i+1)) else decide (x.toNat < y.toNat):=by
 have ha:=(zlA.1 hx);have hb:=(zlA.1 hy);obtain ⟨ha1,ha2⟩:=ha;obtain ⟨hb1,hb2⟩:=hb;rw [List.drop_eq_getElem_cons ha1,List.drop_eq_getElem_cons hb1,ha2,hb2];show (decide (x < y) || (x == y && Op.bytesLess _ _))=_;by_cases h:x=y
 ·subst h
  rw [if_pos rfl];simp
 ·rw [if_neg h]
  rw [zlI.2 h,Bool.false_and,Bool.or_false];rfl
theorem zhp {s:ByteArray} {i:Nat} (h:i < s.size):s.data.toList[i]? = some s[i]:=by
 rw [zlz (by rw [zz];exact h)];rfl
def zbH (l:List Wd):Prop:=1<=l.length∧l.length<=16∧∀ j,j < l.length->ZZ (l.getD j [])=true∧(0 < j->Zs (l.getD (j - 1) []) (l.getD j [])=true)
instance (l:List Wd):Decidable (zbH l):=by unfold zbH;infer_instance
def xw (l:List ByteArray):Bool:=decide (zbH (ZT l))
theorem yp {l:List ByteArray} {j:Nat} {x:ByteArray} (h:l[j]? = some x):(ZT l).getD j []=x.data.toList:=by
 unfold ZT;rw [zlF,zlK,h];rfl
theorem zU (l:List ByteArray):(ZT l).length=l.length:=by unfold ZT;rw [zlD]
theorem Zx {w w':World} {p:Addr} {v:Value} (h:Zo w w') (hc:w.cell? p=some v):w'.cell? p=some v:=by
 obtain ⟨n,rfl⟩:=h;exact hc
set_option maxHeartbeats 1000000 in
set_option maxRecDepth 100000 in
theorem Yt (w:World) (v:Value) (G:Nat->Prop) (l:List ByteArray) (hv:zV w v G l):
  Calls Tryz.prog 165 #[v] w fun e w'=>e=.returned (.bool (xw l))∧Zo w w':=by
 obtain ⟨la,cap,rfl,hl0,hcl⟩:=hv;have HCL:=zf hcl;unfold maxLen at hl0;clear hcl;have NO:=zf (show ∀ h:¬ zbH (ZT l),xw l=false from fun h=>zly h);by_cases h1:l.length < 1
 ·have R:=zf (NO.out (fun q=>by have:=q.1;rw [zU] at this;omega))
  have g1:decide ((l.length:Int) < 1)=true:=by rw [decide_eq_true_eq];omega
  go_enter Tryz.func165,Tryz.ntmps165;go_wp2;go_ret;exact ⟨by rw [R.out];rfl,Zo.refl _⟩
 have g1:decide ((l.length:Int) < 1)=false:=by rw [decide_eq_false_iff_not];omega
 by_cases h2:16 < l.length
 ·have R:=zf (NO.out (fun q=>by have:=q.2.1;rw [zU] at this;omega))
  have g2:decide (16 < (l.length:Int))=true:=by rw [decide_eq_true_eq];omega
  go_enter Tryz.func165,Tryz.ntmps165;go_wp2;go_ret;exact ⟨by rw [R.out];rfl,Zo.refl _⟩
 have g2:decide (16 < (l.length:Int))=false:=by rw [decide_eq_false_iff_not];omega
 go_enter Tryz.func165,Tryz.ntmps165;go_wp2;go_loopw [15] (fun iv wr=>∃ k:Nat,k<=l.length∧iv=.int .i64 k∧Hid ((∀ j,j < k->ZZ ((ZT l).getD j [])=true∧(0 < j->Zs ((ZT l).getD (j - 1) []) ((ZT l).getD j [])=true))∧Zo w wr)) (fun iv _=>l.length - (intOf iv).toNat)
 case atStart=>exact ⟨0,by omega,rfl,zf ⟨fun j hj=>by omega,Zo.refl _⟩⟩
 case round=>
  obtain ⟨k,hk,rfl,HI⟩:=hrel;by_cases hlt:k < l.length
  ·obtain ⟨x,hx⟩:∃ x,l[k]? = some x:=⟨_,zlz hlt⟩
   obtain ⟨lb,lo,rfl,_,c0',hxm⟩:=HCL.out k x hx;have c0:=Zx HI.out.2 c0';have GX:=zf (yp hx);have DR:=zf HI.out.2;have PRE:=zf HI.out.1;have MA:=zf (ziT wr x hxm);clear c0' HI hx;cases hm:ZZ x.data.toList with
   | false=>
    rw [hm] at MA;have R:=zf (NO.out (fun q=>by have:=(q.2.2 k (by rw [zU];exact hlt)).1;rw [GX.out,hm] at this;cases this));clear hm;go_wp2_with fail;(with_reducible refine MA.out.mono ?_);rintro e w1 ⟨rfl,d1⟩;go_wp2;go_ret;exact ⟨by rw [R.out];rfl,DR.out.trans d1⟩
   | true=>
    rw [hm] at MA;by_cases hk0:k=0
    ·have g3:decide (0 < (k:Int))=false:=by rw [decide_eq_false_iff_not];omega
     have g4:decide (0 < k)=false:=by rw [decide_eq_false_iff_not];omega
     have PR:=zf (show ∀ j,j < k+1->ZZ ((ZT l).getD j [])=true∧(0 < j->Zs ((ZT l).getD (j - 1) []) ((ZT l).getD j [])=true) from fun j hj=>by
      obtain rfl:j=k:=by omega
      exact ⟨by rw [GX.out];exact hm,fun h=>by omega⟩)
     clear hm hk0;go_wp2_with fail;(with_reducible refine MA.out.mono ?_);rintro e w1 ⟨rfl,d1⟩;have D1:=zf (DR.out.trans d1);clear d1;go_wp2;go_roundw
     case rel=>exact ⟨k+1,by omega,by go_num,zf ⟨PR.out,D1.out⟩⟩
     case measure=>simp [intOf];omega
    ·obtain ⟨y,hy⟩:∃ y,l[k - 1]? = some y:=⟨_,zlz (by omega)⟩
     obtain ⟨lb',lo',e1,_,c1',hym⟩:=HCL.out (k - 1) y hy;cases e1;have GY:=zf (yp hy);obtain ⟨n,hn⟩:∃ n,n=k - 1:=⟨_,rfl⟩;rw [<- hn] at c1' GY;have c1:=Zx DR.out c1';have g3:decide (0 < (k:Int))=true:=by rw [decide_eq_true_eq];omega
     have g4:decide (0 < k)=true:=by rw [decide_eq_true_eq];omega
     have hnk:(k:Int) - 1=(n:Int):=by omega
     have hnl:n < l.length:=by omega
     have HN:=zf hn;have LS:=zf (fun w=>zas w y x);have HM:=zf hm;clear hy hn c1' hm;cases hl:Zs y.data.toList x.data.toList with
     | false=>
      rw [hl] at LS;have R:=zf (NO.out (fun q=>by have:=(q.2.2 k (by rw [zU];exact hlt)).2 (by omega);rw [GX.out,<- HN.out,GY.out,hl] at this;cases this));clear hl;go_wp2_with fail;(with_reducible refine MA.out.mono ?_);rintro e w1 ⟨rfl,d1⟩;have c2:=Zx d1 c1;have D1:=zf (DR.out.trans d1);clear d1;go_wp2_with fail;(with_reducible refine (LS.out _).mono ?_);rintro e w2 ⟨rfl,rfl⟩;go_wp2;go_ret;exact ⟨by rw [R.out];rfl,D1.out⟩
     | true=>
      rw [hl] at LS
      have PR:=zf (show ∀ j,j < k+1->ZZ ((ZT l).getD j [])=true∧(0 < j->Zs ((ZT l).getD (j - 1) []) ((ZT l).getD j [])=true) from fun j hj=>by
       rcases Nat.lt_or_ge j k with q | q
       ·exact PRE.out j q
       ·obtain rfl:j=k:=by omega
        exact ⟨by rw [GX.out];exact HM.out,fun _=>by rw [GX.out,<- HN.out,GY.out];exact hl⟩)
      clear hl;go_wp2_with fail;(with_reducible refine MA.out.mono ?_);rintro e w1 ⟨rfl,d1⟩;have c2:=Zx d1 c1;have D1:=zf (DR.out.trans d1);clear d1;go_wp2_with fail;(with_reducible refine (LS.out _).mono ?_);rintro e w2 ⟨rfl,rfl⟩;go_wp2;go_roundw
      case rel=>exact ⟨k+1,by omega,by go_num,zf ⟨PR.out,D1.out⟩⟩
      case measure=>simp [intOf];omega
  ·obtain rfl:k=l.length:=by omega
   have R:=zf (show xw l=true from zlx ⟨by rw [zU];omega,by rw [zU];omega,fun j hj=>HI.out.1 j (by rw [zU] at hj;exact hj)⟩);go_wp2;go_ret;exact ⟨by rw [R.out];rfl,HI.out.2⟩
instance:LawfulBEq ByteArray where
 eq_of_beq {a b} h:=ByteArray.ext (eq_of_beq (show (a.data == b.data)=true from h))
 rfl {a}:=(beq_self_eq_true a.data:(a.data == a.data)=true)
theorem XJ (a b:ByteArray):(a.toList == b.toList)=decide (a=b):=by
 rw [ByteArray.toList_eq,ByteArray.toList_eq,Bool.eq_iff_iff,beq_iff_eq,decide_eq_true_eq];exact ⟨fun h=>ByteArray.ext (Array.ext' h),fun h=>by rw [h]⟩
theorem zev (a b:ByteArray):(a.toList != b.toList)=!decide (a=b):=by unfold bne;rw [XJ]
theorem zkj {α:Type} [BEq α] [LawfulBEq α] {l:List α} {x:α} {k:Nat} (h:l[k]? = some x) (hn:∀ j,j < k->l[j]?≠some x):x∈l∧l.idxOf x=k:=by
 have hm:=zlB h;have h1:=List.idxOf_lt_length_of_mem hm;have h2:=List.getElem_idxOf h1;refine ⟨hm,?_⟩;rcases Nat.lt_trichotomy (l.idxOf x) k with q | q | q
 ·exact absurd (by rw [zlz h1,h2]) (hn _ q)
 ·exact q
 ·have hk:=(zlA.1 h).1
  have:=List.not_of_lt_findIdx (p:=(· == x)) q;rw [zlz hk] at h;rw [Option.some.inj h] at this;simp at this
theorem zin {α:Type} {l:List α} {x:α} (hn:∀ j,j < l.length->l[j]?≠some x):x ∉ l:=by
 intro h;obtain ⟨j,hj⟩:=List.mem_iff_getElem?.1 h;exact hn j (zlA.1 hj).1 hj
def zb9 (l:List ByteArray) (x:ByteArray):Bool:=decide (x∈l)
def Xa (l m:List ByteArray):Bool:=decide (l=m)
theorem zgn {l m:List ByteArray} (hl:l.length=m.length) (h:∀ j,j < l.length->l[j]? = m[j]?):l=m:=by
 apply List.ext_getElem?;intro j;rcases Nat.lt_or_ge j l.length with q | q
 ·exact h j q
 ·rw [zlP q,zlP (by omega)]
end Go.Proofs.YtcilaocknhphnaaGreat
namespace Go.Proofs
open Go.Shelf
shelf_lay Lays.n189 Nm 189 at Tryz as Tryz.laysSort
end Go.Proofs
namespace Go.Proofs.YtcilaocknhphnaaGreat
open Go.RowKit Go.Shelf Go.Sort
def Ys (l:List Nat):List Nat:=l.mergeSort fun x y=>decide (x<=y)
theorem zdE (l:List Nat):(Ys l).Perm l:=List.mergeSort_perm l _
theorem xW (l:List Nat):(Ys l).length=l.length:=(zdE l).length_eq
theorem zdF (l:List Nat):((l.map fun (n:Nat)=>(n:Int)).mergeSort fun x y=>decide (x<=y)).map (Value.int .i64)=zac (Ys l):=by
 unfold Ys zac;rw [<- List.map_mergeSort (r:=fun x y:Nat=>decide (x<=y)) (s:=fun x y:Int=>decide (x<=y)) (f:=fun (n:Nat)=>(n:Int)) (fun a _ b _=>by rw [decide_eq_decide];omega),List.map_map];rfl
theorem zcC {w:World} {g n:Nat} {e:TypeId} {cur:Array Value} (ys:List Int) (hg:w.heap[g]? = some (.cells cur e (0,0))) (hy:ys.length=n) (hc:n<=cur.size) (q:Nat) (os:Array Obj):
  (grow (putRow (Value.int .i64) (Sort.ahead w q) g 0 ys.toArray) os).heap[g]? = some (.cells ((ys.map (Value.int .i64))++cur.toList.drop n).toArray e (0,0))∧Chg (·=g) w (grow (putRow (Value.int .i64) (Sort.ahead w q) g 0 ys.toArray) os):=by
 have hlt:=zu hg
 have h1:(putRow (Value.int .i64) (Sort.ahead w q) g 0 ys.toArray).heap[g]? = some (.cells (putCells (Value.int .i64) 0 ys.toArray cur) e (0,0)):=by
  show (w.heap.modify g (onCells _))[g]? = _;rw [Array.getElem?_modify,if_pos rfl,hg];rfl
 have h2:putCells (Value.int .i64) 0 ys.toArray cur=((ys.map (Value.int .i64))++cur.toList.drop n).toArray:=by
  apply Array.ext
  ·simp [putCells];omega
  ·intro i h3 h4
   simp only [putCells,Array.size_mapIdx] at h3;simp only [putCells,Array.getElem_mapIdx,List.getElem_toArray];by_cases hi:i < n
   ·rw [if_pos ⟨by omega,by simp;omega⟩,List.getElem_append_left (by simp;omega)]
    simp [hy,hi]
   ·rw [if_neg (by simp;omega),List.getElem_append_right (by simp;omega)]
    simp [hy]
    congr 1;omega
 refine ⟨?_,?_⟩
 ·rw [heap_grow_old _ os (by rw [size_putRow];exact hlt),h1,h2]
 ·have hz:=size_putRow (Value.int .i64) (Sort.ahead w q) g 0 ys.toArray
  refine ⟨rfl,rfl,rfl,by rw [grow,Array.size_append,hz];show w.heap.size<=w.heap.size+os.size;omega,fun k hk hne=>?_⟩;rw [heap_grow_old _ os (by rw [size_putRow];exact hk)];show (w.heap.modify g (onCells _))[k]? = _;rw [Array.getElem?_modify,if_neg (fun e=>hne e.symm)]
theorem zhS (w:World) (base:Nat) (v:Value) (l:List Nat) (h:w.ownsRow base 3 1 v l.length (zac l)) (hl:l.length<=1000000):
  Calls Tryz.prog 286 #[v] w fun e w'=>e=.returned (.tuple #[])∧w'.ownsRow base 3 1 v l.length (zac (Ys l))∧Chg (fun x=>v.ownBlock=some x) w w':=by
 have h0:=h;obtain ⟨h1,⟨rfl,h2⟩ | ⟨g,cap,cur,rfl,hg,hh,q1,q2,q3,q4⟩⟩:=h
 ·refine (Any.slices_Sort_int_none Tryz.laysSort none 0 w).mono ?_
  rintro e w' ⟨rfl,rfl⟩;have:l=[]:=List.eq_nil_of_length_eq_zero h2;subst this;exact ⟨rfl,by simpa [Ys] using h0,Chg.refl _ _⟩
 ·have hcs:cur.size=cap:=by omega
  have e1:(l.map fun (n:Nat)=>(n:Int)).length=l.length:=zlD ..
  have hH:Holds (Value.int .i64) w g 0 (l.map fun (n:Nat)=>(n:Int)).toArray:=by
   intro j hj;have hj:j < l.length:=by simpa using hj
   refine ⟨?_,zk hh⟩;rw [Nat.zero_add];have:=h0.cellAt (j:=j) (by omega);rw [this];unfold zac;rw [zlK,zlz hj,getElem!_pos _ j (by simpa using hj)];simp
  have hs:=Any.slices_Sort_int Tryz.laysSort g 0 cap (l.map fun (n:Nat)=>(n:Int)) w hH (zu hh) (by rw [e1];omega);rw [e1] at hs;refine Calls.mono hs ?_;rintro e w' ⟨rfl,q,os,rfl⟩;have hyl:((l.map fun (n:Nat)=>(n:Int)).mergeSort fun x y=>decide (x<=y)).length=l.length:=by rw [List.length_mergeSort,e1]
  obtain ⟨r1,r2⟩:=zcC _ hh hyl (by omega) q os;rw [zdF] at r1;have il:(zac (Ys l)).length=l.length:=by unfold zac;rw [zlD,xW]
  refine ⟨rfl,⟨by rw [il];omega,.inr ⟨g,cap,_,rfl,hg,r1,q1,q2,?_,?_⟩⟩,r2.mono (fun x _ e=>by rw [e];rfl)⟩
  ·simp [il];omega
  ·rw [Nat.mul_one,List.take_append_of_le_length (by rw [il];exact zlS _),List.take_of_length_le (by rw [il];exact zlS _)]
open Go.Maps
theorem zap {P:Program} {w:World} {ops:Array Oper} {rest:List Oper} {o:Oper} {a:Act} {Q:Exit->Act->World->Prop} (hgd:o.guard=none) (s x:Operand) (t:TypeId)
  (ho:o.op=.call { callee:=.builtin .append,args:=#[s,x],argTypes:=#[t,t] }) (e:TypeId) (size bytes:Nat) (ht:P.underlying t=some (.slice e)) (hE:Zc P e size bytes)
  (base:Nat) (v:Value) (n:Nat) (xs:List Value) (hs:a.eval s=v) (hown:w.ownsRow base e size v n xs)
  (base2:Nat) (u:Value) (m:Nat) (ys:List Value) (hx:a.eval x=u) (hu:w.ownsRow base2 e size u m ys) (h1:∀ z∈ys,z.oneCell'=true)
  (hbytes:(n+m)*bytes<=140737488355328) (h63:n+m<=maxLen) (hbase:base<=w.heap.size)
  (h:∀ v' w',w'.ownsRow base e size v' (n+m) (xs++ys)->w.grownBy w' v.ownBlock->wpList P ops Q rest (a.put o.dst v') w'):wpList P ops Q (o :: rest) a w:=by
 obtain ⟨i,z,hi,hz,q1,q2,q3,q4⟩:=hE;have hu0:=hu;obtain ⟨hl,⟨rfl,rfl⟩ | ⟨g,cap,cur,rfl,hg,hh,r1,r2,r3,r4⟩⟩:=hu
 ·have:ys=[]:=List.eq_nil_of_length_eq_zero (by simpa using hl)
  subst this;refine wpList_append_own_none hgd s x t ho base e i size ht hi v n xs hs hown hx ?_;exact h v w (by simpa using hown) ⟨rfl,rfl,rfl,zlS _,fun _ _ _=>rfl⟩
 ·exact wpList_append_own w hgd s x t ho base e i z size bytes ht hi hz q1 q2 q3 q4 v n xs hs hown ⟨g,0,none⟩ m cap ys hx hl (hu0.cells (g:=g) rfl) h1 h63 hbytes hbase (fun v' w' h2 h3 _=>h v' w' h2 h3)
theorem Chg.own {w w1 w2:World} {v:Value} {e:TypeId} {size n:Nat} {xs:List Value} (h:Chg (fun _=>False) w w1) (ho:w1.ownsRow w.heap.size e size v n xs) (hc:Chg (fun x=>v.ownBlock=some x) w1 w2):Chg (fun _=>False) w w2:=
 ⟨hc.os.trans h.os,hc.tape.trans h.tape,hc.output.trans h.output,Nat.le_trans h.size hc.size,fun i hi _=>by
  rw [hc.block i (by have:=h.size;omega) (fun e=>by have:=(ho.lt i e).1;omega)];exact h.block i hi (fun e=>e)⟩
def zkl (l:List (Nat × Nat)):List Value:=l.flatMap fun h=>[.int .i64 (h.1:Int),.int .i64 (h.2:Int)]
theorem Tryz.elemHit:Zc Tryz.prog 541 2 16:=zX (z:=.agg #[.int .i64 0,.int .i64 0]) (by kernel_rfl) rfl (by decide)
def yM (l:List Nat):List Value:=l.map fun (a:Nat)=>.int .u16 (a:Int)
theorem Tryz.elemAtom:Zc Tryz.prog 58 1 2:=zX (z:=.int .u16 0) (by kernel_rfl) rfl (by decide)
theorem YW {w:World} {base:Nat} {e:TypeId} {v:Value} {n:Nat} {xs:List Value} (h:w.ownsRow base e 1 v n xs):∃ a cap,v=.slice a n cap∧n<=maxLen∧∀ (j:Nat) x,xs[j]? = some x->∃ g,a=some ⟨g,0,none⟩∧base<=g∧w.cell? ⟨g,j,none⟩=some x:=by
 have h0:=h;obtain ⟨h1,⟨rfl,h2⟩ | ⟨g,cap,cur,rfl,hg,hh,q1,q2,q3,q4⟩⟩:=h
 ·refine ⟨none,0,by rw [h2],by rw [h2];unfold maxLen;omega,fun j x hj=>?_⟩
  have:j < xs.length:=(zlA.1 hj).1;omega
 ·refine ⟨_,cap,rfl,by omega,fun j x hj=>⟨g,rfl,hg,?_⟩⟩
  have hj':j < xs.length:=(zlA.1 hj).1;have:=h0.cellAt (j:=j) (by omega);rw [this,hj]
def Ze (l:List Nat):List UInt8:=l.flatMap fun a=>[UInt8.ofNat (a / 256),UInt8.ofNat (a % 256)]
theorem zcQ (l:List Nat) (a:Nat):Ze (l++[a])=Ze l++[UInt8.ofNat (a / 256),UInt8.ofNat (a % 256)]:=by unfold Ze;rw [List.flatMap_append];simp
theorem za2 (l:List Nat):(Ze l).length=2*l.length:=by
 induction l with
 | nil=>rfl
 | cons c r ih=>simp [Ze] at ih ⊢;omega
theorem Tryz.elemByte:Zc Tryz.prog 5 1 1:=zX (z:=.int .u8 0) (by kernel_rfl) rfl (by decide)
theorem ZR (m:Nat) (z:Int) (hm:m < 256) (hz:z=m):Value.int .u8 z=yL (UInt8.ofNat m):=by
 subst hz;unfold yL;rw [UInt8.toNat_ofNat'];congr 1;omega
set_option maxHeartbeats 1000000 in
set_option maxRecDepth 100000 in
theorem zjk (w:World) (a:Option Addr) (cap:Nat) (l:List Nat) (hpos:0 < l.length) (hl:l.length<=100000) (hc:∀ (j:Nat) x,l[j]? = some x->x < 65536∧∃ g o,a=some ⟨g,o,none⟩∧w.cell? ⟨g,o+j,none⟩=some (.int .u16 ((x:Nat):Int))):
  Calls Tryz.prog 25 #[.slice a l.length cap] w fun e w'=>e=.returned (.string ⟨(Ze l).toArray⟩)∧Chg (fun _=>False) w w':=by
 have HC0:=zf hc;clear hc;go_enter Tryz.func25,Tryz.ntmps25;go_wp2;go_loopw [3,4] (fun lv iv wr=>∃ k:Nat,k<=l.length∧iv=.int .i64 k∧wr.ownsRow w.heap.size 5 1 lv (2*k) (zE (Ze (l.take k)))∧Chg (fun _=>False) w wr) (fun _ iv _=>l.length - (intOf iv).toNat)
 case atStart=>exact ⟨0,by omega,rfl,yX _ _ _ _ (zlS _),zi _ _ _⟩
 case round=>
  obtain ⟨k,hk,rfl,ho,hc⟩:=hrel;have HO:=zf ho;have HC:=zf hc;have hsz:=hc.size;clear ho hc;by_cases hlt:k < l.length
  ·obtain ⟨x,hx⟩:∃ x,l[k]? = some x:=⟨_,zlz hlt⟩
   obtain ⟨hx16,g,o,rfl,c0⟩:=HC0.out k x hx;have c1:=zj HC.out (fun e=>e) c0;have hgl:g < w.heap.size:=World.block_lt_of_cell? w _ c0
   have TK:=zf (show l.take (k+1)=l.take k++[x] by
    rw [List.take_succ_eq_append_getElem hlt];rw [zlz hlt] at hx;rw [Option.some.inj hx])
   clear c0 hx;go_wp2;refine zC (N:=29) [.rd [0,1,2,3,4,5,6,7,8,9,10,11,12],.ef 13,.ef 14,.rd [15]] (fun w'=>w'.cell? ⟨g,o+k,none⟩=some (.int .u16 (x:Int))) (by kernel_rfl) (by kernel_rfl) (by kernel_rfl) (by kernel_rfl) (Nat.le_of_ble_eq_true rfl) c1 ?_;refine zJ (A:=?A1) ?h1 ?h2
   case h1=>
    intro w' hS K hK;simp only [zS,zls,zlt,zlu,zlv,zlw]
    repeat still_step
    refine wpStill_nil ?_;exact hK
   refine zQ rfl ?_;go_wp2_with fail;have k2:Chg (fun _=>False) wr ((wr.alloc (.cells #[.int .u8 ((x:Int) / 256),.int .u8 ((x:Int) % 256)] 5)).drew):=(zi _ _ _).drew;have c2:=zj k2 (fun e=>e) c1;have e2:((wr.alloc (.cells #[.int .u8 ((x:Int) / 256),.int .u8 ((x:Int) % 256)] 5)).drew).heap[wr.heap.size]? = some (.cells #[.int .u8 ((x:Int) / 256),.int .u8 ((x:Int) % 256)] 5 (0,0)):=zh _ _;have o2:((wr.alloc (.cells #[.int .u8 ((x:Int) / 256),.int .u8 ((x:Int) % 256)] 5)).drew).ownsRow 0 5 1 (.slice (some ⟨wr.heap.size,0,none⟩) 2 2) 2 [.int .u8 ((x:Int) / 256),.int .u8 ((x:Int) % 256)]:=⟨rfl,.inr ⟨wr.heap.size,2,_,rfl,Nat.zero_le _,e2,zlS _,by unfold maxLen;omega,rfl,rfl⟩⟩;refine ⟨c2,?_⟩;have C2:=zf (HC.out.trans k2);have O2:=zf (zo HO.out k2 (fun _ _ e=>e));have S2:=zf o2;have hsz2:w.heap.size<=((wr.alloc (.cells #[.int .u8 ((x:Int) / 256),.int .u8 ((x:Int) % 256)] 5)).drew).heap.size:=C2.out.size;clear o2 e2 k2 c1 HO HC;have V1:=zf (show Value.int .u8 ((x:Int) / 256)=yL (UInt8.ofNat (x / 256)) from ZR (x / 256) _ (by omega) (by omega));have V2:=zf (show Value.int .u8 ((x:Int) % 256)=yL (UInt8.ofNat (x % 256)) from ZR (x % 256) _ (by omega) (by omega));refine zQ rfl ?_;refine zap rfl (.tmp 12) (.tmp 25) 23 rfl 5 1 1 Tryz.underlying23 Tryz.elemByte w.heap.size _ _ _ rfl O2.out 0 _ _ _ rfl S2.out (by intro z hz;simp at hz;rcases hz with rfl | rfl <;> rfl) (by omega) (by unfold maxLen;omega) hsz2 ?_;intro v5 w5 o5 g5;have C5:=zf (C2.out.own O2.out (Chg.of_grown g5))
   have c5:w5.cell? ⟨g,o+k,none⟩=some (.int .u16 (x:Int)):=by
    refine zj (Chg.of_grown g5) (fun e=>?_) c2;have h1:=(O2.out.lt g e).1;omega
   rw [V1.out,V2.out] at o5;have OS:=zf (show zE (Ze (l.take (k+1)))=zE (Ze (l.take k))++[yL (UInt8.ofNat (x / 256)),yL (UInt8.ofNat (x % 256))] by rw [TK.out,zcQ];unfold zE;rw [List.map_append];rfl);rw [<- OS.out] at o5;have O5:=zf o5;clear o5 g5;go_wp2_with fail;refine ⟨c5,?_⟩;refine zJ (A:=?A2) ?h3 ?h4
   case h3=>
    intro w' hS K hK;clear hS;simp only [zS,zls,zlt,zlu,zlv,zlw]
    repeat still_step
    refine wpStill_nil ?_;exact hK
   refine Za ?_;go_wp2;go_roundw
   case rel=>exact ⟨k+1,by omega,by go_num,by rw [show 2*(k+1)=2*k+2 from by omega];exact O5.out,C5.out⟩
   case measure=>simp [intOf];omega
  ·obtain rfl:k=l.length:=by omega
   have hol:=za2 l;have hkd:decide (l.length < l.length)=false:=by simp
   rw [zlT] at HO;obtain ⟨ra,rc,rfl,hrl,hcl⟩:=YW HO.out;unfold maxLen at hrl;obtain ⟨g,rfl,_,_⟩:=hcl 0 _ (yq (Ze l) 0 (by omega))
   have hcv:=run_convert_bytes_arg (P:=Tryz.prog) wr 23 5 Tryz.underlying23 Tryz.underlying5 g 0 (2*l.length) rc ((Ze l).map fun c=>(c.toNat:Int)) (by rw [zlD,hol])
    (fun i hi=>by
     obtain ⟨g',e',_,cx⟩:=hcl i _ (yq (Ze l) i (by omega));cases e';rw [Nat.zero_add];exact cx) 29 Tryz.underlying29
   rw [ZA] at hcv;clear hcl;go_wp2;go_ret;exact ⟨rfl,HC.out⟩
open Go.ChangeShapes Go.WideShapes Go.ChangeAt
theorem Tryz.own:ownKnob Tryz.prog.godebug=none:=by kernel_rfl
theorem Tryz.laidOut:laidOutB Tryz.prog=true:=by kernel_rfl
structure zkG (w:World) (v:Value) (l:List ByteArray):Prop where
 at_:zV w v (· < w.heap.size) l
 nil:∀ n c,v=.slice none n c->n=0∧c=0

def zO (l:List ByteArray):List Value:=l.map Value.string
theorem xi (l:List ByteArray):∀ v∈zO l,v.oneCell'=true:=by
 intro v hv;simp [zO] at hv;obtain ⟨c,_,rfl⟩:=hv;rfl
theorem Tryz.elemWord:Zc Tryz.prog 29 1 16:=zX (z:=.string ⟨#[]⟩) (by kernel_rfl) rfl (by decide)
def zhI (P:Program) (k e:TypeId) (w:World) (b n:Nat) (f:Lit->Option (DataW Unit)):Prop:=
 ∃ D:DataW Unit,w.ownsMap P k (plainElem P e) b n D∧∀ kl,Maps.has D kl=(f kl).isSome∧∀ d,f kl=some d->∀ z,D.atKey kl z=d
section
variable {P:Program} {k e:TypeId} {w:World} {b n:Nat} {f:Lit->Option (DataW Unit)}
theorem zhI.at {D:DataW Unit} (q:∀ kl,Maps.has D kl=(f kl).isSome∧∀ d,f kl=some d->∀ z,D.atKey kl z=d) (kl:Lit) (z:DataW Unit):D.atKey kl z=(f kl).getD z:=by
 obtain ⟨h1,h2⟩:=q kl;cases hf:f kl with
 | none=>rw [hf] at h1;exact atKey_of_not_has h1 z
 | some d=>exact h2 d hf z
theorem zhI.look_ok {t:TypeId} (h:zhI P k e w b n f) (K:Keyed P k) (ht:P.underlying t=some (.map k e)) {z:Value} (hz:(zeroValue e).run P w=.ok z w) {zd:DataW Unit} {zp:List MemPlace} (hzd:plainElem P e z=some (zd,zp))
  {key:Value} {kl:Lit} (hkey:keyOf P k key=some kl):∃ v ps,(Instr.lookup t (.map (some b)) key true).run P w=.ok (.tuple #[v,.bool (f kl).isSome]) w∧plainElem P e v=some ((f kl).getD zd,ps):=by
 obtain ⟨D,h,q⟩:=h;obtain ⟨v,ps,h1,h2⟩:=h.look_ok K ht hz hzd hkey;exact ⟨v,ps,by rw [h1,(q kl).1],by rw [h2,zhI.at q]⟩
end
end Go.Proofs.YtcilaocknhphnaaGreat
