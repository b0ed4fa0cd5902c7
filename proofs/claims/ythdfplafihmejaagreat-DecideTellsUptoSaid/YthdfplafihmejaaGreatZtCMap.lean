/-
  The reference's Atoms and May. The reference's May. Lists of hits, to be read. The reference's Of. What the arguments' readings say, in the words of the walks: words, and slices of words. Slices of words: append, and what is owned. Maps of plain elements, in any program: what a map's block says of each key; lookups, stores, deletions. The order of words; words sorted, each once (the reference's Right), in plain Lean. Package set: Has; the reference's Has. slices.Equal of sets. Sets of words in memory. Certificates in plain Lean: which may be. Package cert: isOf, alone, num; package word: Of of one atom; slices.Contains of ints. Maps whose elements are told as they lie there: lookups, stores, deletions, how many there are, ranges.
-/
import Derived.Test.YthdfplafihmejaaGreatZtMMach2
import Derived.Test.YthdfplafihmejaaGreatZtRPlain
import Derived.Laws.BytesString
import Derived.Laws.BytesArg
import Derived.Test.YthdfplafihmejaaGreatRows
import Derived.ProofKit
import Derived.OpenShut
import Derived.ShutString
import Derived.ChangeOld
import Derived.Deep.Slices
import Derived.Test.YthdfplafihmejaaGreatZtKit2
import Derived.Maps.Own
import Derived.Maps.OwnOps
import Derived.Maps.OwnSet
import Derived.Maps.Views
import Derived.Maps.RangeWalk
import Derived.WalkSpells
import Derived.Sort.Walk0
namespace Go.Proofs.YthdfplafihmejaaGreat
open Go.RowKit Go.Maps
def Zs (l:List Nat):List Value:=l.map fun (a:Nat)=>.int .u16 (a:Int)
theorem Tryz.elemAtom:Zt Tryz.prog 62 1 2:=Zj (z:=.int .u16 0) (by kernel_rfl) rfl (by decide)
theorem XY {w:World} {base:Nat} {e:TypeId} {v:Value} {n:Nat} {xs:List Value} (h:w.ownsRow base e 1 v n xs):∃ a cap,v=.slice a n cap∧n<=maxLen∧∀ (j:Nat) x,xs[j]? = some x->∃ g,a=some ⟨g,0,none⟩∧base<=g∧w.cell? ⟨g,j,none⟩=some x:=by
 have h0:=h;obtain ⟨h1,⟨rfl,h2⟩ | ⟨g,cap,cur,rfl,hg,hh,q1,q2,q3,q4⟩⟩:=h
 ·refine ⟨none,0,by rw [h2],by rw [h2];unfold maxLen;omega,fun j x hj=>?_⟩
  have:j < xs.length:=(zq1.1 hj).1;omega
 ·refine ⟨_,cap,rfl,by omega,fun j x hj=>⟨g,rfl,hg,?_⟩⟩
  have hj':j < xs.length:=(zq1.1 hj).1;have:=h0.cellAt (j:=j) (by omega);rw [this,hj]
theorem zaA (l:List (Nat × Nat)):(yq l).length=2*l.length:=by
 induction l with
 | nil=>rfl
 | cons c r ih=>simp [yq] at ih ⊢;omega
theorem zbo (l:List (Nat × Nat)):∀ (k:Nat) c,l[k]? = some c->(yq l)[2*k]? = some (.int .i64 (c.1:Int))∧(yq l)[2*k+1]? = some (.int .i64 (c.2:Int)):=by
 induction l with
 | nil=>intro k c h;simp at h
 | cons x r ih=>
  intro k c h;rcases k with _ | k
  ·simp at h;subst h;exact ⟨rfl,rfl⟩
  ·have:=ih k c (by simpa using h)
   show (Value.int .i64 (x.1:Int) :: Value.int .i64 (x.2:Int) :: yq r)[2*(k+1)]? = _∧(Value.int .i64 (x.1:Int) :: Value.int .i64 (x.2:Int) :: yq r)[2*(k+1)+1]? = _;rw [show 2*(k+1)=2*k+1+1 from by omega]
   simpa using this
def Zg (l:List Nat):List UInt8:=l.flatMap fun a=>[UInt8.ofNat (a / 256),UInt8.ofNat (a % 256)]
theorem zhd (l:List Nat) (a:Nat):Zg (l++[a])=Zg l++[UInt8.ofNat (a / 256),UInt8.ofNat (a % 256)]:=by unfold Zg;rw [List.flatMap_append];simp
theorem ze3 (l:List Nat):(Zg l).length=2*l.length:=by
 induction l with
 | nil=>rfl
 | cons c r ih=>simp [Zg] at ih ⊢;omega
theorem Tryz.elemByte:Zt Tryz.prog 5 1 1:=Zj (z:=.int .u8 0) (by kernel_rfl) rfl (by decide)
theorem zdI (m:Nat) (z:Int) (hm:m < 256) (hz:z=m):Value.int .u8 z=ze7 (UInt8.ofNat m):=by
 subst hz;unfold ze7;rw [UInt8.toNat_ofNat'];congr 1;omega
set_option maxHeartbeats 1000000 in
set_option maxRecDepth 100000 in
theorem zf2 (w:World) (a:Option Addr) (cap:Nat) (l:List Nat) (hpos:0 < l.length) (hl:l.length<=100000) (hc:∀ (j:Nat) x,l[j]? = some x->x < 65536∧∃ g o,a=some ⟨g,o,none⟩∧w.cell? ⟨g,o+j,none⟩=some (.int .u16 ((x:Nat):Int))):
  Calls Tryz.prog 30 #[.slice a l.length cap] w fun e w'=>e=.returned (.string ⟨(Zg l).toArray⟩)∧Chg (fun _=>False) w w':=by
 have HC0:=ze hc;clear hc;go_enter Tryz.func30,Tryz.ntmps30;go_wp2;go_loopw [3,4] (fun lv iv wr=>∃ k:Nat,k<=l.length∧iv=.int .i64 k∧wr.ownsRow w.heap.size 5 1 lv (2*k) (zcz (Zg (l.take k)))∧Chg (fun _=>False) w wr) (fun _ iv _=>l.length - (intOf iv).toNat)
 case atStart=>exact ⟨0,by omega,rfl,ZH _ _ _ _ (zrj _),zi _ _ _⟩
 case round=>
  obtain ⟨k,hk,rfl,ho,hc⟩:=hrel;have HO:=ze ho;have HC:=ze hc;have hsz:=hc.size;clear ho hc;by_cases hlt:k < l.length
  ·obtain ⟨x,hx⟩:∃ x,l[k]? = some x:=⟨_,zq0 hlt⟩
   obtain ⟨hx16,g,o,rfl,c0⟩:=HC0.out k x hx;have c1:=zj HC.out (fun e=>e) c0;have hgl:g < w.heap.size:=World.block_lt_of_cell? w _ c0
   have TK:=ze (show l.take (k+1)=l.take k++[x] by
    rw [List.take_succ_eq_append_getElem hlt];rw [zq0 hlt] at hx;rw [Option.some.inj hx])
   clear c0 hx;go_wp2;refine zu (N:=29) [.rd [0,1,2,3,4,5,6,7,8,9,10,11,12],.ef 13,.ef 14,.rd [15]] (fun w'=>w'.cell? ⟨g,o+k,none⟩=some (.int .u16 (x:Int))) (by kernel_rfl) (by kernel_rfl) (by kernel_rfl) (by kernel_rfl) (Nat.le_of_ble_eq_true rfl) c1 ?_;refine zB (A:=?A1) ?h1 ?h2
   case h1=>
    intro w' hS K hK;simp only [zM,zqT,zqU,zqV,zqW,zqX]
    repeat still_step
    refine wpStill_nil ?_;exact hK
   refine zI rfl ?_;go_wp2_with fail;have k2:Chg (fun _=>False) wr ((wr.alloc (.cells #[.int .u8 ((x:Int) / 256),.int .u8 ((x:Int) % 256)] 5)).drew):=(zi _ _ _).drew;have c2:=zj k2 (fun e=>e) c1;have e2:((wr.alloc (.cells #[.int .u8 ((x:Int) / 256),.int .u8 ((x:Int) % 256)] 5)).drew).heap[wr.heap.size]? = some (.cells #[.int .u8 ((x:Int) / 256),.int .u8 ((x:Int) % 256)] 5 (0,0)):=zh _ _;have o2:((wr.alloc (.cells #[.int .u8 ((x:Int) / 256),.int .u8 ((x:Int) % 256)] 5)).drew).ownsRow 0 5 1 (.slice (some ⟨wr.heap.size,0,none⟩) 2 2) 2 [.int .u8 ((x:Int) / 256),.int .u8 ((x:Int) % 256)]:=⟨rfl,.inr ⟨wr.heap.size,2,_,rfl,Nat.zero_le _,e2,zrj _,by unfold maxLen;omega,rfl,rfl⟩⟩;refine ⟨c2,?_⟩;have C2:=ze (HC.out.trans k2);have O2:=ze (zn HO.out k2 (fun _ _ e=>e));have S2:=ze o2;have hsz2:w.heap.size<=((wr.alloc (.cells #[.int .u8 ((x:Int) / 256),.int .u8 ((x:Int) % 256)] 5)).drew).heap.size:=C2.out.size;clear o2 e2 k2 c1 HO HC;have V1:=ze (show Value.int .u8 ((x:Int) / 256)=ze7 (UInt8.ofNat (x / 256)) from zdI (x / 256) _ (by omega) (by omega));have V2:=ze (show Value.int .u8 ((x:Int) % 256)=ze7 (UInt8.ofNat (x % 256)) from zdI (x % 256) _ (by omega) (by omega));refine zI rfl ?_;refine zbJ rfl (.tmp 12) (.tmp 25) 112 rfl 5 1 1 Tryz.underlying112 Tryz.elemByte w.heap.size _ _ _ rfl O2.out 0 _ _ _ rfl S2.out (by intro z hz;simp at hz;rcases hz with rfl | rfl <;> rfl) (by omega) (by unfold maxLen;omega) hsz2 ?_;intro v5 w5 o5 g5;have C5:=ze (C2.out.own O2.out (Chg.of_grown g5))
   have c5:w5.cell? ⟨g,o+k,none⟩=some (.int .u16 (x:Int)):=by
    refine zj (Chg.of_grown g5) (fun e=>?_) c2;have h1:=(O2.out.lt g e).1;omega
   rw [V1.out,V2.out] at o5;have OS:=ze (show zcz (Zg (l.take (k+1)))=zcz (Zg (l.take k))++[ze7 (UInt8.ofNat (x / 256)),ze7 (UInt8.ofNat (x % 256))] by rw [TK.out,zhd];unfold zcz;rw [List.map_append];rfl);rw [<- OS.out] at o5;have O5:=ze o5;clear o5 g5;go_wp2_with fail;refine ⟨c5,?_⟩;refine zB (A:=?A2) ?h3 ?h4
   case h3=>
    intro w' hS K hK;clear hS;simp only [zM,zqT,zqU,zqV,zqW,zqX]
    repeat still_step
    refine wpStill_nil ?_;exact hK
   refine zR ?_;go_wp2;go_roundw
   case rel=>exact ⟨k+1,by omega,by go_num,by rw [show 2*(k+1)=2*k+2 from by omega];exact O5.out,C5.out⟩
   case measure=>simp [intOf];omega
  ·obtain rfl:k=l.length:=by omega
   have hol:=ze3 l;have hkd:decide (l.length < l.length)=false:=by simp
   rw [zrk] at HO;obtain ⟨ra,rc,rfl,hrl,hcl⟩:=XY HO.out;unfold maxLen at hrl;obtain ⟨g,rfl,_,_⟩:=hcl 0 _ (zbs (Zg l) 0 (by omega))
   have hcv:=run_convert_bytes_arg (P:=Tryz.prog) wr 112 5 Tryz.underlying112 Tryz.underlying5 g 0 (2*l.length) rc ((Zg l).map fun c=>(c.toNat:Int)) (by rw [zq4,hol])
    (fun i hi=>by
     obtain ⟨g',e',_,cx⟩:=hcl i _ (zbs (Zg l) i (by omega));cases e';rw [Nat.zero_add];exact cx) 57 Tryz.underlying57
   rw [zaR] at hcv;clear hcl;go_wp2;go_ret;exact ⟨rfl,HC.out⟩
open Go.ChangeShapes Go.WideShapes Go.ChangeAt
theorem Tryz.own:ownKnob Tryz.prog.godebug=none:=by kernel_rfl
theorem Tryz.laidOut:laidOutB Tryz.prog=true:=by kernel_rfl
structure zqz (w:World) (v:Value) (l:List ByteArray):Prop where
 at_:zx w v (· < w.heap.size) l
 nil:∀ n c,v=.slice none n c->n=0∧c=0

def zK (l:List ByteArray):List Value:=l.map Value.string
theorem Yz (l:List ByteArray):∀ v∈zK l,v.oneCell'=true:=by
 intro v hv;simp [zK] at hv;obtain ⟨c,_,rfl⟩:=hv;rfl
theorem Tryz.elemWord:Zt Tryz.prog 57 1 16:=Zj (z:=.string ⟨#[]⟩) (by kernel_rfl) rfl (by decide)
theorem zhW {w:World} {base:Nat} {v:Value} {l:List ByteArray} (h:w.ownsRow base 57 1 v l.length (zK l)) (hs:∀ x∈l,x.size<=400):zx w v (· < w.heap.size) l:=by
 obtain ⟨a,cap,rfl,h1,h2⟩:=XY h;refine ⟨a,cap,rfl,h1,fun j x hj=>?_⟩;obtain ⟨g,rfl,hg,c⟩:=h2 j (.string x) (by unfold zK;rw [zrb,hj];rfl);exact ⟨g,0,rfl,World.block_lt_of_cell? w _ c,by rw [Nat.zero_add];exact c,by have:=hs x (zq2 hj);unfold maxLen;omega⟩
def XB (P:Program) (k e:TypeId) (w:World) (b n:Nat) (f:Lit->Option (DataW Unit)):Prop:=
 ∃ D:DataW Unit,w.ownsMap P k (plainElem P e) b n D∧∀ kl,Maps.has D kl=(f kl).isSome∧∀ d,f kl=some d->∀ z,D.atKey kl z=d
open Classical in
noncomputable def zp1 (f:Lit->Option (DataW Unit)) (kl:Lit) (d:Option (DataW Unit)):Lit->Option (DataW Unit):=fun x=>if x=kl then d else f x
theorem zl1 (f:Lit->Option (DataW Unit)) (kl:Lit) (d:Option (DataW Unit)):zp1 f kl d kl=d:=if_pos rfl
theorem zkp (f:Lit->Option (DataW Unit)) {kl x:Lit} (h:x≠kl) (d:Option (DataW Unit)):zp1 f kl d x=f x:=if_neg h
section
variable {P:Program} {k e:TypeId} {w:World} {b n:Nat} {f:Lit->Option (DataW Unit)}
theorem XB.made (P:Program) (k e:TypeId) (w:World):XB P k e (w.alloc (.map #[] 0)) w.heap.size 0 (fun _=>none):=
 ⟨.map [],World.ownsMap_made w P k _,fun _=>⟨rfl,fun d h=>by cases h⟩⟩
theorem XB.chg {S:Nat->Prop} {w':World} (h:XB P k e w b n f) (hc:Chg S w w') (hs:¬ S b):XB P k e w' b n f:=by
 obtain ⟨D,⟨es,clock,hh,r⟩,q⟩:=h;exact ⟨D,⟨es,clock,hc.obj hs hh,r⟩,q⟩
theorem XB.lt (h:XB P k e w b n f):b < w.heap.size:=by
 obtain ⟨D,h,q⟩:=h;exact h.lt
theorem XB.at {D:DataW Unit} (q:∀ kl,Maps.has D kl=(f kl).isSome∧∀ d,f kl=some d->∀ z,D.atKey kl z=d) (kl:Lit) (z:DataW Unit):D.atKey kl z=(f kl).getD z:=by
 obtain ⟨h1,h2⟩:=q kl;cases hf:f kl with
 | none=>rw [hf] at h1;exact atKey_of_not_has h1 z
 | some d=>exact h2 d hf z
theorem XB.look_ok {t:TypeId} (h:XB P k e w b n f) (K:Keyed P k) (ht:P.underlying t=some (.map k e)) {z:Value} (hz:(zeroValue e).run P w=.ok z w) {zd:DataW Unit} {zp:List MemPlace} (hzd:plainElem P e z=some (zd,zp))
  {key:Value} {kl:Lit} (hkey:keyOf P k key=some kl):∃ v ps,(Instr.lookup t (.map (some b)) key true).run P w=.ok (.tuple #[v,.bool (f kl).isSome]) w∧plainElem P e v=some ((f kl).getD zd,ps):=by
 obtain ⟨D,h,q⟩:=h;obtain ⟨v,ps,h1,h2⟩:=h.look_ok K ht hz hzd hkey;exact ⟨v,ps,by rw [h1,(q kl).1],by rw [h2,XB.at q]⟩
theorem XB.put {t:TypeId} (h:XB P k e w b n f) (K:Keyed P k) (ht:P.underlying t=some (.map k e)) (hn:n < maxLen) {key val:Value} {kl:Lit} {d:DataW Unit} {ps:List MemPlace}
  (hkey:keyOf P k key=some kl) (hv:plainElem P e val=some (d,ps)):∃ w',(Instr.mapUpdate t (.map (some b)) key val).run P w=.ok () w'∧XB P k e w' b (n+1) (zp1 f kl (some d))∧Chg (·=b) w w':=by
 obtain ⟨D,h,q⟩:=h;obtain ⟨w',hr,h1,h2⟩:=h.update K ht hn hkey hv;refine ⟨w',hr,⟨_,h1,fun x=>?_⟩,(Chg.of_grown h2).mono (fun x _ e=>by cases e;rfl)⟩;have hk:=K.key hkey;by_cases hx:x=kl
 ·subst hx
  rw [zl1];exact ⟨has_put_same h.isMap hk d,fun d' e z=>by cases e;exact atKey_put_same h.isMap hk d z⟩
 ·rw [zkp f hx,has_put_other hx]
  exact ⟨(q x).1,fun d' e z=>by rw [atKey_put_other hx];exact (q x).2 d' e z⟩
end
section
variable {P:Program} {w:World} {ops:Array Oper} {rest:List Oper} {o:Oper} {a:Act} {Q:Exit->Act->World->Prop}
theorem YK (hg:o.guard=none) (m x:Operand) (t:TypeId) (hop:o.op=Op.lookup t m x true) (k e:TypeId) (q:IntKind) (K:Keyed P k) (ht:P.underlying t=some (.map k e)) (he:P.underlying e=some (.int q)) (hz:(zeroValue e).run P w=.ok (.int q 0) w)
  (b n:Nat) (f:Lit->Option (DataW Unit)) (hm:a.eval m=.map (some b)) (hown:XB P k e w b n f) (key:Value) (kl:Lit) (hx:a.eval x=key) (hkey:keyOf P k key=some kl) (c:Int) (hc:(f kl).getD (.lit (.int q 0))=.lit (.int q c)) (bo:Bool) (hbo:(f kl).isSome=bo)
  (hK:wpList P ops Q rest (a.put o.dst (.tuple #[.int q c,.bool bo])) w):wpList P ops Q (o :: rest) a w:=by
 refine wpList_plain hg fun K' hK'=>?_;obtain ⟨v,ps,hrun,hv⟩:=hown.look_ok K ht hz (plainElem_int he (by cases q <;> decide)) hkey;obtain ⟨c',rfl,e2,_⟩:=plainElem_int_inv he hv;rw [hc] at e2;cases e2;rw [hbo] at hrun;unfold Oper.wp;simp [execOp,hop,hm,hx,hrun,Result.andThen];exact hK' _ _ hK
theorem zjS (hg:o.guard=none) (m x v:Operand) (t:TypeId) (hop:o.op=Op.mapUpdate t m x v) (k e:TypeId) (K:Keyed P k) (ht:P.underlying t=some (.map k e)) (b n:Nat) (f:Lit->Option (DataW Unit))
  (hm:a.eval m=.map (some b)) (hown:XB P k e w b n f) (hn:n < maxLen) (key val:Value) (kl:Lit) (hx:a.eval x=key) (hv:a.eval v=val) (hkey:keyOf P k key=some kl) (d:DataW Unit) (ps:List MemPlace) (hval:plainElem P e val=some (d,ps))
  (hK:∀ w',XB P k e w' b (n+1) (zp1 f kl (some d))->Chg (·=b) w w'->wpList P ops Q rest (a.put o.dst undef) w'):wpList P ops Q (o :: rest) a w:=by
 refine wpList_plain hg fun K' hK'=>?_;obtain ⟨w',hrun,r1,r2⟩:=hown.put K ht hn hkey hval;unfold Oper.wp;simp [execOp,hop,hm,hx,hv,hrun,Result.andThen];exact hK' _ _ (hK w' r1 r2)
end
def Yf (a b:ByteArray):Bool:=ye a.data.toList b.data.toList
theorem zep {a b:Wd}:ye a b=true↔a.length < b.length∨a.length=b.length∧a < b:=by
 unfold ye;by_cases h:a.length=b.length
 ·rw [if_pos h,bytesLess_eq,zra]
  constructor
  ·exact fun q=>.inr ⟨h,q⟩
  ·rintro (q | q)
   ·omega
   ·exact q.2
 ·rw [if_neg h,zra]
  constructor
  ·exact fun q=>.inl q
  ·rintro (q | q)
   ·exact q
   ·exact (h q.1).elim
theorem yH (a:Wd):ye a a=false:=by
 rw [<- zrn,zep];rintro (h | h)
 ·omega
 ·exact List.lt_irrefl a h.2
theorem yY {a b c:Wd} (h:ye a b=true) (k:ye b c=true):ye a c=true:=by
 rw [zep] at *;rcases h with h | ⟨h,h2⟩ <;> rcases k with k | ⟨k,k2⟩
 ·exact .inl (by omega)
 ·exact .inl (by omega)
 ·exact .inl (by omega)
 ·exact .inr ⟨by omega,List.lt_trans h2 k2⟩
theorem Xr {a b:Wd} (h:ye a b=false) (k:ye b a=false):a=b:=by
 rw [<- zrn,zep] at h k
 have hl:a.length=b.length:=by
  rcases Nat.lt_trichotomy a.length b.length with q | q | q
  ·exact (h (.inl q)).elim
  ·exact q
  ·exact (k (.inl q)).elim
 exact List.le_antisymm (List.not_lt.1 fun q=>k (.inr ⟨hl.symm,q⟩)) (List.not_lt.1 fun q=>h (.inr ⟨hl,q⟩))
def zbe (last:Option ByteArray) (x:ByteArray):Bool:=match last with | none=>true | some y=>Yf y x
def ziP (best:Option ByteArray) (x:ByteArray):Bool:=match best with | none=>true | some y=>Yf x y
def zio (last best:Option ByteArray) (x:ByteArray):Option ByteArray:=if (zbe last x && ziP best x)=true then some x else best
def zcU (last:Option ByteArray) (l:List ByteArray):Option ByteArray:=l.foldl (zio last) none
structure xQ (l out:List ByteArray):Prop where
 sub:∀ x∈out,x∈l
 srt:out.Pairwise fun a b=>Yf a b=true
 rest:∀ x∈l,x∈out∨zbe out.getLast? x=true
section
variable (w:World) (v:Value) (G:Nat->Prop) (l:List ByteArray) (x:ByteArray)
theorem zml (hv:zx w v G l):Calls Tryz.prog 167 #[v,.string x] w fun e w'=>e=.returned (.int .i64 (zhP l x))∧w=w':=by
 obtain ⟨la,cap,rfl,hl0,hcl⟩:=hv;have HCL:=ze hcl;unfold maxLen at hl0;clear hcl;go_enter Tryz.func167,Tryz.ntmps167;go_wp2;go_loop [8] (fun iv=>∃ k:Nat,k<=l.length∧iv=.int .i64 k∧Hid (∀ j,j < k->l[j]?≠some x)) (fun iv=>l.length - (intOf iv).toNat)
 case atStart=>exact ⟨0,by omega,rfl,ze (fun j hj=>by omega)⟩
 case round=>
  obtain ⟨k,hk,rfl,HI⟩:=hrel;by_cases hlt:k < l.length
  ·obtain ⟨y,hy⟩:∃ y,l[k]? = some y:=⟨_,zq0 hlt⟩
   obtain ⟨lb,lo,rfl,_,c0,_⟩:=HCL.out k y hy;by_cases hxy:x=y
   ·have n1:(x.toList == y.toList)=true:=by rw [xC,zqY hxy]
    have R:=ze (show zhP l x=(k:Int) by
     have:=zmn (hxy ▸ hy) HI.out;unfold zhP;rw [if_pos this.1,this.2])
    clear hy hxy;go_wp2;go_ret;exact ⟨by rw [R.out];rfl,rfl⟩
   ·have n1:(x.toList == y.toList)=false:=by rw [xC,zqZ hxy]
    have HI2:=ze (show ∀ j,j < k+1->l[j]?≠some x from fun j hj=>by
     rcases Nat.lt_or_ge j k with q | q
     ·exact HI.out j q
     ·obtain rfl:j=k:=by omega
      rw [hy];exact fun e=>hxy (Option.some.inj e).symm)
    clear hy hxy;go_wp2;go_round
    case rel=>exact ⟨k+1,by omega,by go_num,HI2⟩
    case measure=>simp [intOf];omega
  ·obtain rfl:k=l.length:=by omega
   have R:=ze (show zhP l x=-1 from if_neg (zcl HI.out));go_wp2;go_ret;exact ⟨by rw [R.out];rfl,rfl⟩
theorem zpz (hv:zx w v G l):Calls Tryz.prog 137 #[v,.string x] w fun e w'=>e=.returned (.bool (Xw l x))∧w=w':=by
 have IX:=ze (zml w v G l x hv);obtain ⟨la,cap,rfl,hl0,_⟩:=hv;by_cases h:x∈l
 ·have R:=ze (show Xw l x=true from zqY h)
  have q:0<=zhP l x:=by unfold zhP;rw [if_pos h];omega
  have g:decide (0<=zhP l x)=true:=zqY q;clear h;go_enter Tryz.func137,Tryz.ntmps137;go_wp2_with (first | ((with_reducible refine IX.out.mono ?_);rintro e w1 ⟨rfl,rfl⟩) | go_in);go_ret;exact ⟨by rw [R.out];rfl,rfl⟩
 ·have R:=ze (show Xw l x=false from zqZ h)
  have q:zhP l x=-1:=if_neg h;rw [q] at IX;clear h q;go_enter Tryz.func137,Tryz.ntmps137;go_wp2_with (first | ((with_reducible refine IX.out.mono ?_);rintro e w1 ⟨rfl,rfl⟩) | go_in);go_ret;exact ⟨by rw [R.out];rfl,rfl⟩
end
section
variable (w:World) (v u:Value) (G G':Nat->Prop) (l m:List ByteArray)
theorem zmD (hv:zx w v G l) (hu:zx w u G' m):Calls Tryz.prog 164 #[v,u] w fun e w'=>e=.returned (.bool (zce l m))∧ZJ w w':=by
 obtain ⟨la,cap,rfl,hl0,hcl⟩:=hv;obtain ⟨ma,mcap,rfl,hm0,hcm⟩:=hu;have HCL:=ze hcl;have HCM:=ze hcm;unfold maxLen at hl0 hm0;clear hcl hcm;by_cases hlen:l.length=m.length
 ·have g:((l.length:Int) != (m.length:Int))=false:=by rw [zrf];omega
  have g2:((l.length:Int) == (m.length:Int))=true:=by rw [beq_iff_eq];omega
  have HL:=ze hlen;have hle1:l.length<=m.length:=by omega
  have hle2:m.length<=l.length:=by omega
  clear hlen;go_enter Tryz.func164,Tryz.ntmps164;go_wp2;go_loopw [13] (fun iv wr=>∃ k:Nat,k<=l.length∧iv=.int .i64 k∧Hid ((∀ j,j < k->l[j]? = m[j]?)∧ZJ w wr)) (fun iv _=>l.length - (intOf iv).toNat)
  case atStart=>exact ⟨0,by omega,rfl,ze ⟨fun j hj=>by omega,ZJ.refl _⟩⟩
  case round=>
   obtain ⟨k,hk,rfl,HI⟩:=hrel;by_cases hlt:k < l.length
   ·have hltm:k < m.length:=by omega
    obtain ⟨y,hy⟩:∃ y,l[k]? = some y:=⟨_,zq0 hlt⟩;obtain ⟨z,hz⟩:∃ z,m[k]? = some z:=⟨_,zq0 hltm⟩;obtain ⟨lb,lo,rfl,_,c0',_⟩:=HCL.out k y hy;obtain ⟨mb,mo,rfl,_,d0',_⟩:=HCM.out k z hz;have c0:=yu HI.out.2 c0';have d0:=yu HI.out.2 d0';have DR:=ze HI.out.2;by_cases hxy:y=z
    ·have n1:(y.toList != z.toList)=false:=by rw [zi8,zqY hxy];rfl
     have n2:(y.toList == z.toList)=true:=by rw [xC,zqY hxy]
     have HI2:=ze (show ∀ j,j < k+1->l[j]? = m[j]? from fun j hj=>by
      rcases Nat.lt_or_ge j k with q | q
      ·exact HI.out.1 j q
      ·obtain rfl:j=k:=by omega
       rw [hy,hz,hxy])
     clear hy hz hxy c0' d0' HI;go_wp2_with fail;go_quiet (fail);rename_i nq;have DQ:=ze (show ZJ w (wr.drewN nq) from DR.out.trans ⟨nq,rfl⟩);go_wp2;go_roundw
     case rel=>exact ⟨k+1,by omega,by go_num,ze ⟨HI2.out,DQ.out⟩⟩
     case measure=>simp [intOf];omega
    ·have n1:(y.toList != z.toList)=true:=by rw [zi8,zqZ hxy];rfl
     have n2:(y.toList == z.toList)=false:=by rw [xC,zqZ hxy]
     have R:=ze (show zce l m=false from zqZ (fun e=>by rw [e,hz] at hy;exact hxy (Option.some.inj hy).symm));clear hy hz hxy c0' d0' HI;go_wp2_with fail;go_quiet (fail);rename_i nq;have DQ:=ze (show ZJ w (wr.drewN nq) from DR.out.trans ⟨nq,rfl⟩);go_wp2;go_ret;exact ⟨by rw [R.out];rfl,DQ.out⟩
   ·obtain rfl:k=l.length:=by omega
    have R:=ze (show zce l m=true from zqY (zlF HL.out HI.out.1));go_wp2;go_ret;exact ⟨by rw [R.out];rfl,HI.out.2⟩
 ·have g:((l.length:Int) != (m.length:Int))=true:=by rw [zre];omega
  have g2:((l.length:Int) == (m.length:Int))=false:=by rw [zq9];omega
  have R:=ze (show zce l m=false from zqZ (fun e=>hlen (by rw [e])));clear hlen;go_enter Tryz.func164,Tryz.ntmps164;go_wp2;go_ret;exact ⟨by rw [R.out];rfl,ZJ.refl _⟩
end
structure xf (w:World) (v:Value) (G:Nat->Prop) (l:List ByteArray):Prop where
 at_:zx w v G l
 nil:∀ n c,v=.slice none n c->n=0∧c=0
theorem xf.chg {S:Nat->Prop} {w w':World} {v:Value} {G:Nat->Prop} {l:List ByteArray} (h:xf w v G l) (hc:Chg S w w') (hs:∀ k,G k->¬ S k):xf w' v G l:=⟨h.at_.chg hc hs,h.nil⟩
theorem zx.up {w:World} {v:Value} {G G':Nat->Prop} {l:List ByteArray} (h:zx w v G l) (hg:∀ k,G k->G' k):zx w v G' l:=by
 obtain ⟨la,cap,h1,h2,h3⟩:=h;exact ⟨la,cap,h1,h2,fun j r hj=>by obtain ⟨lb,lo,q1,q2,q3⟩:=h3 j r hj;exact ⟨lb,lo,q1,hg _ q2,q3⟩⟩
theorem xf.up {w:World} {v:Value} {G G':Nat->Prop} {l:List ByteArray} (h:xf w v G l) (hg:∀ k,G k->G' k):xf w v G' l:=⟨h.at_.up hg,h.nil⟩
theorem xf.shape {w:World} {v:Value} {G:Nat->Prop} {l:List ByteArray} (h:xf w v G l):∃ a c,v=.slice a l.length c:=by
 obtain ⟨la,cap,e,_⟩:=h.at_;exact ⟨la,cap,e⟩
theorem xf.some {w:World} {a:Option Addr} {n c:Nat} {G:Nat->Prop} {l:List ByteArray} (h:xf w (.slice a n c) G l) (hn:0 < l.length):∃ g o,a=some ⟨g,o,none⟩∧G g:=by
 obtain ⟨la,cap,e,_,hc⟩:=h.at_;cases e;obtain ⟨g,o,e,q,_⟩:=hc 0 _ (zq0 hn);exact ⟨g,o,e,q⟩
theorem zac {w:World} {la:Option Addr} {n cap:Nat} {G:Nat->Prop} {l:List ByteArray} (h:zx w (.slice la n cap) G l):∀ (j:Nat) u,(zK l)[j]? = some u->∃ g o,la=some ⟨g,o,none⟩∧w.cell? ⟨g,o+j,none⟩=some u:=by
 obtain ⟨la',cap',e,_,hc⟩:=h;cases e;intro j u hj;unfold zK at hj;rw [zrb] at hj;cases hq:l[j]? with
 | none=>rw [hq] at hj;cases hj
 | some x=>
  rw [hq] at hj;cases hj;obtain ⟨g,o,e1,_,c,_⟩:=hc j x hq;exact ⟨g,o,e1,c⟩
theorem zcb {w:World} {base:Nat} {v:Value} {l:List ByteArray} (h:w.ownsRow base 57 1 v l.length (zK l)) (hs:∀ x∈l,x.size<=maxLen):xf w v (fun k=>v.ownBlock=Option.some k) l:=by
 refine ⟨?_,?_⟩
 ·obtain ⟨a,cap,rfl,h1,h2⟩:=XY h
  refine ⟨a,cap,rfl,h1,fun j x hj=>?_⟩;obtain ⟨g,rfl,hg,c⟩:=h2 j (.string x) (by unfold zK;rw [zrb,hj];rfl);exact ⟨g,0,rfl,rfl,by rw [Nat.zero_add];exact c,hs x (zq2 hj)⟩
 ·intro n c e
  obtain ⟨_,⟨e2,_⟩ | ⟨g,cap,cur,e2,_⟩⟩:=h
  ·rw [e2] at e;cases e;exact ⟨rfl,rfl⟩
  ·rw [e2] at e;cases e
theorem zaU {s:List ByteArray} (h:zaJ s=true) {x:ByteArray} (hx:x∈s):Zp x.data.toList=true:=by
 obtain ⟨j,hj⟩:=List.mem_iff_getElem?.1 hx;obtain ⟨_,_,h3⟩:=of_decide_eq_true h;have:=(h3 j (by rw [Zr];exact (zq1.1 hj).1)).1;rwa [Xc hj] at this
structure zq where
 kind:Int
 sg:Nat
 sp:ByteArray
 fr:List ByteArray
 f:Int
 t:Int
 n:Int
deriving DecidableEq
def zdD (n:Int):Bool:=decide (0<=n∧n<=4611686018427387904)
def ZF (w:ByteArray) (ks:List Nat):Bool:=decide (zz w.data.toList=1) && decide (zO w.data.toList 0 / 8192∈ks)
def XU (sp:ByteArray):ByteArray:=⟨(yi sp.data.toList 0 1 [0,1]).toArray⟩
def ZW (a:Nat):ByteArray:=⟨(Zg [a]).toArray⟩
def zjD (c:zq):Bool:=decide (2<=zz c.sp.data.toList) && (decide (∀ x∈c.fr,x=c.sp∨x=XU c.sp) && (decide (c.sp∈c.fr) && decide (XU c.sp∈c.fr)))
def zdt (c:zq):Bool:=
 if c.kind=6 then true
 else if c.kind=7 then zjD c
 else match c.fr with
  | [w]=>
   if c.kind=1 then ZF c.sp [1] && (decide (zz w.data.toList=2) && (decide (zO w.data.toList 0 / 8192=3) && decide (zO w.data.toList 1 / 8192=5)))
   else if c.kind=2 then ZF c.sp [1] && decide (w=ZW c.sg)
   else if c.kind=3 then ZF c.sp [2]
   else if c.kind=4 then ZF c.sp [3] && ZF w [4]
   else if c.kind=5 then ZF c.sp [1,2] && (decide (2<=zz w.data.toList) && decide (zO w.data.toList (zz w.data.toList - 1) / 8192=5))
   else false
  | _=>false
def zmv (c:zq):Bool:=decide (c.sg / 8192=1) && (Zp c.sp.data.toList && (zaJ c.fr && (zdD c.f && (zdD c.t && zdD c.n))))
def ZD (c:zq):Bool:=decide (1<=c.kind∧c.kind<=7) && (zmv c && (decide (c.f<=c.t) && (decide (∀ w∈c.fr,zz c.sp.data.toList<=zz w.data.toList) && zdt c)))
structure zpW (c:zq):Prop where
 k1:1<=c.kind
 k7:c.kind<=7
 sg:c.sg / 8192=1
 sp:Zp c.sp.data.toList=true
 fr:zaJ c.fr=true
 f0:0<=c.f
 f1:c.f<=4611686018427387904
 t0:0<=c.t
 t1:c.t<=4611686018427387904
 n0:0<=c.n
 n1:c.n<=4611686018427387904
 ft:c.f<=c.t
 len:∀ w∈c.fr,zz c.sp.data.toList<=zz w.data.toList
theorem zcv {c:zq} (h:ZD c=true):zpW c:=by
 unfold ZD zmv zdD at h;simp only [zrl,decide_eq_true_eq] at h;obtain ⟨⟨h1,h2⟩,⟨h3,h4,h5,⟨h6,h7⟩,⟨h8,h9⟩,h10,h11⟩,h12,h13,_⟩:=h;exact ⟨h1,h2,h3,h4,h5,h6,h7,h8,h9,h10,h11,h12,h13⟩
def Yr (w:World) (v:Value) (G:Nat->Prop) (l:List Int):Prop:=
 ∃ la cap,v=.slice la l.length cap∧l.length<=maxLen∧∀ (j:Nat) x,l[j]? = some x->∃ g o,la=some ⟨g,o,none⟩∧G g∧w.cell? ⟨g,o+j,none⟩=some (.int .i64 x)
theorem Yr.chg {S:Nat->Prop} {w w':World} {v:Value} {G:Nat->Prop} {l:List Int} (h:Yr w v G l) (hc:Chg S w w') (hs:∀ k,G k->¬ S k):Yr w' v G l:=by
 obtain ⟨la,cap,h1,h2,h3⟩:=h;exact ⟨la,cap,h1,h2,fun j x hj=>by obtain ⟨g,o,q1,q2,q3⟩:=h3 j x hj;exact ⟨g,o,q1,q2,zj hc (hs g q2) q3⟩⟩
theorem zcY (w:World) (l:List Int) (ty:TypeId) (hl:l.length<=1000):Yr (w.alloc (.cells (l.map (Value.int .i64)).toArray ty)) (.slice (some ⟨w.heap.size,0,none⟩) l.length l.length) (fun k=>k=w.heap.size) l:=
 ⟨_,_,rfl,by unfold maxLen;omega,fun j x hj=>⟨_,0,rfl,rfl,by
  rw [Nat.zero_add];exact zf (zh _ _) (by simp [hj])⟩⟩
set_option maxRecDepth 100000 in
theorem zkN (w:World) (v:Value) (G:Nat->Prop) (l:List Int) (x:Int) (hv:Yr w v G l):
  Calls Tryz.prog 131 #[v,.int .i64 x] w fun e w'=>(∃ i:Int,e=.returned (.int .i64 i)∧decide (0<=i)=decide (x∈l))∧w=w':=by
 obtain ⟨la,cap,rfl,hl0,hcl⟩:=hv;have HCL:=ze hcl;unfold maxLen at hl0;clear hcl;go_enter Tryz.func131,Tryz.ntmps131;go_wp2;go_loop [8] (fun iv=>∃ k:Nat,k<=l.length∧iv=.int .i64 k∧Hid (x ∉ l.take k)) (fun iv=>l.length - (intOf iv).toNat)
 case atStart=>exact ⟨0,by omega,rfl,ze (by simp)⟩
 case round=>
  obtain ⟨k,hk,rfl,HI⟩:=hrel;by_cases hlt:k < l.length
  ·obtain ⟨y,hy⟩:∃ y,l[k]? = some y:=⟨_,zq0 hlt⟩
   obtain ⟨lb,lo,rfl,_,c0⟩:=HCL.out k y hy;by_cases hxy:x=y
   ·have R:=ze (show x∈l from by rw [hxy];exact zq2 hy)
    have e1:(x == y)=true:=beq_iff_eq.2 hxy;clear HI hy hxy;go_wp2;go_ret;exact ⟨⟨_,rfl,⟨fun _=>R.out,fun _=>by omega⟩⟩,rfl⟩
   ·have e1:(x == y)=false:=zq9.2 hxy
    have HI2:=ze (show x ∉ l.take (k+1) from by
     rw [zri,hy];simp only [Option.toList_some,zrc,List.mem_singleton,not_or];exact ⟨HI.out,hxy⟩)
    clear HI hy hxy;go_wp2;go_round
    case rel=>exact ⟨k+1,by omega,by go_num,HI2⟩
    case measure=>simp [intOf];omega
  ·obtain rfl:k=l.length:=by omega
   have R:=ze (show x ∉ l from by have:=HI.out;rwa [zrk] at this);go_wp2;go_ret;exact ⟨⟨_,rfl,⟨fun q=>by omega,fun q=>(R.out q).elim⟩⟩,rfl⟩
theorem zgn (w:World) (v:Value) (G:Nat->Prop) (l:List Int) (x:Int) (hv:Yr w v G l):
  Calls Tryz.prog 111 #[v,.int .i64 x] w fun e w'=>e=.returned (.bool (decide (x∈l)))∧w=w':=by
 have IX:=ze (zkN w v G l x hv);obtain ⟨la,cap,rfl,hl0,hcl⟩:=hv;clear hcl;generalize decide (x∈l)=r at *;go_enter Tryz.func111,Tryz.ntmps111;go_wp2_with fail;(with_reducible refine IX.out.mono ?_);rintro e w2 ⟨⟨i,rfl,hi⟩,rfl⟩;go_wp2;go_ret;exact ⟨rfl,rfl⟩
def zgd (ks:List Nat):List Int:=ks.map fun (k:Nat)=>(k:Int)
theorem znO {ks:List Nat} {a:Nat}:((a:Int)∈zgd ks)↔a∈ks:=by
 unfold zgd;rw [List.mem_map];constructor
 ·rintro ⟨k,hk,e⟩
  have:k=a:=by omega
  rwa [<- this]
 ·exact fun h=>⟨a,h,rfl⟩
theorem zjx (w:World) (a:Nat) (v:Value) (G:Nat->Prop) (ks:List Nat) (ha:a < 65536) (hv:Yr w v G (zgd ks)):
  Calls Tryz.prog 83 #[.int .u16 (a:Nat),v] w fun e w'=>e=.returned (.bool (decide (a / 8192∈ks)))∧w=w':=by
 have CT:=zgn w v G (zgd ks) ((a / 8192:Nat):Int) hv;rw [show decide (((a / 8192:Nat):Int)∈zgd ks)=decide (a / 8192∈ks) from by rw [decide_eq_decide];exact znO] at CT;have e1:IntKind.i64.wrap (a:Int)=(a:Int):=by rw [IntKind.wrap_i64];omega
 have e2:((a / 8192:Nat):Int)=(a:Int) / 8192:=by omega
 rw [e2] at CT;have CT:=ze CT;obtain ⟨la,cap,rfl,hl0,hcl⟩:=hv;clear hcl e2;generalize decide (a / 8192∈ks)=r at *;go_enter Tryz.func83,Tryz.ntmps83;go_wp2_with fail;(with_reducible refine CT.out.mono ?_);rintro e w2 ⟨rfl,rfl⟩;go_wp2;go_ret;exact ⟨rfl,rfl⟩
theorem zhE (w:World) (s:ByteArray) (v:Value) (G:Nat->Prop) (ks:List Nat) (hs:s.size<=maxLen) (hv:Yr w v G (zgd ks)):
  Calls Tryz.prog 113 #[.string s,v] w fun e w'=>e=.returned (.bool (ZF s ks))∧Chg (fun _=>False) w w':=by
 have L1:=ze (ZO w s hs);by_cases h1:zz s.data.toList=1
 ·have AT:=zi1 w s 0 hs (by omega)
  change Calls Tryz.prog 81 #[.string s,.int .i64 0] w _ at AT;have AT:=ze AT;have IO:=ze (fun w1 (q:Chg (fun _=>False) w w1)=>zjx w1 (zO s.data.toList 0) v G ks (yT _ _) (hv.chg q (fun _ _ e=>e)));have R:=ze (show ZF s ks=decide (zO s.data.toList 0 / 8192∈ks) from by unfold ZF;rw [zqY h1];rfl);rw [h1] at L1;obtain ⟨la,cap,rfl,hl0,hcl⟩:=hv;clear hcl h1;generalize zO s.data.toList 0=a at *;generalize decide (a / 8192∈ks)=r at *;go_enter Tryz.func113,Tryz.ntmps113;go_wp2_with fail;(with_reducible refine L1.out.mono ?_);rintro e w2 ⟨rfl,rfl⟩;go_wp2_with fail;(with_reducible refine AT.out.mono ?_);rintro e w3 ⟨rfl,k3⟩;have I3:=ze (IO.out w3 k3);go_wp2_with fail;(with_reducible refine I3.out.mono ?_);rintro e w4 ⟨rfl,rfl⟩;go_wp2;go_ret;exact ⟨by rw [R.out];rfl,k3⟩
 ·have R:=ze (show ZF s ks=false from by unfold ZF;rw [zqZ h1];rfl)
  have e1:((zz s.data.toList:Int) == 1)=false:=zq9.2 (by omega);obtain ⟨la,cap,rfl,hl0,hcl⟩:=hv;clear hcl h1;go_enter Tryz.func113,Tryz.ntmps113;go_wp2_with fail;(with_reducible refine L1.out.mono ?_);rintro e w2 ⟨rfl,rfl⟩;go_wp2;go_ret;exact ⟨by rw [R.out];rfl,Chg.refl _ _⟩
set_option maxRecDepth 100000 in
theorem zpo (w:World) (v:Value) (G:Nat->Prop) (l:List Int) (hv:Yr w v G l):
  Calls Tryz.prog 84 #[v] w fun e w'=>e=.returned (.bool (l.all zdD))∧w=w':=by
 obtain ⟨la,cap,rfl,hl0,hcl⟩:=hv;have HCL:=ze hcl;unfold maxLen at hl0;clear hcl;go_enter Tryz.func84,Tryz.ntmps84;go_wp2;go_loop [7] (fun iv=>∃ k:Nat,k<=l.length∧iv=.int .i64 k∧Hid ((l.take k).all zdD=true)) (fun iv=>l.length - (intOf iv).toNat)
 case atStart=>exact ⟨0,by omega,rfl,ze rfl⟩
 case round=>
  obtain ⟨k,hk,rfl,HI⟩:=hrel;by_cases hlt:k < l.length
  ·obtain ⟨y,hy⟩:∃ y,l[k]? = some y:=⟨_,zq0 hlt⟩
   obtain ⟨lb,lo,rfl,_,c0⟩:=HCL.out k y hy;by_cases hn:zdD y=true
   ·have HI2:=ze (show (l.take (k+1)).all zdD=true from by
     rw [zri,hy,List.all_append,HI.out];simp [hn])
    have hn2:0<=y∧y<=4611686018427387904:=of_decide_eq_true hn;have g1:decide (y < 0)=false:=zqZ (by omega);have g2:decide (4611686018427387904 < y)=false:=zqZ (by omega);clear HI hy hn hn2;go_wp2;go_round
    case rel=>exact ⟨k+1,by omega,by go_num,HI2⟩
    case measure=>simp [intOf];omega
   ·have R:=ze (show l.all zdD=false from by
     rw [List.all_eq_false];exact ⟨y,zq2 hy,hn⟩)
    have hn2:¬ (0<=y∧y<=4611686018427387904):=fun q=>hn (zqY q);clear HI hy hn;by_cases h0:y < 0
    ·have g1:decide (y < 0)=true:=zqY h0
     clear hn2 h0;go_wp2;go_ret;exact ⟨by rw [R.out];rfl,rfl⟩
    ·have g1:decide (y < 0)=false:=zqZ h0
     have g2:decide (4611686018427387904 < y)=true:=zqY (by omega);clear hn2 h0;go_wp2;go_ret;exact ⟨by rw [R.out];rfl,rfl⟩
  ·obtain rfl:k=l.length:=by omega
   have R:=ze (show l.all zdD=true from by have:=HI.out;rwa [zrk] at this);go_wp2;go_ret;exact ⟨by rw [R.out];rfl,rfl⟩
set_option maxRecDepth 100000 in
theorem zb4 (w:World) (g o cap a:Nat) (ha:a < 65536) (hc:w.cell? ⟨g,o,none⟩=some (.int .u16 ((a:Nat):Int))):
  Calls Tryz.prog 55 #[.slice (some ⟨g,o,none⟩) 1 cap] w fun e w'=>e=.returned (.string (ZW a))∧Chg (fun _=>False) w w':=by
 have hmk:∀ w:World,(Instr.makeSlice 112 (.int .i64 0) (.int .i64 2)).run Tryz.prog w=.ok (.slice (some ⟨w.heap.size,0,none⟩) 0 2) (w.alloc (.cells #[.int .u8 0,.int .u8 0] 5)):=fun _=>by kernel_rfl
 have HC:=ze hc;clear hc;go_enter Tryz.func55,Tryz.ntmps55;go_wp2;go_loopw [3,12] (fun lv iv wr=>∃ k:Nat,k<=1∧iv=.int .i64 k∧Hid (wr.ownsRow w.heap.size 5 1 lv (2*k) (zcz (Zg ([a].take k)))∧Chg (fun _=>False) w wr)) (fun _ iv _=>1 - (intOf iv).toNat)
 case atStart=>exact ⟨0,by omega,rfl,ze ⟨⟨rfl,.inr ⟨w.heap.size,2,_,rfl,zrj _,zh _ _,by omega,by unfold maxLen;omega,rfl,rfl⟩⟩,zi _ _ _⟩⟩
 case round=>
  obtain ⟨k,hk,rfl,HI⟩:=hrel;have hsz:w.heap.size<=wr.heap.size:=HI.out.2.size;by_cases hlt:k < 1
  ·obtain rfl:k=0:=by omega
   have c0:=zj HI.out.2 (fun e=>e) HC.out;have O0:=ze HI.out.1;have K0:=ze HI.out.2;have V1:=ze (show Value.int .u8 ((a:Int) / 256)=ze7 (UInt8.ofNat (a / 256)) from zdI (a / 256) _ (by omega) (by omega));have V2:=ze (show Value.int .u8 ((a:Int) % 256)=ze7 (UInt8.ofNat (a % 256)) from zdI (a % 256) _ (by omega) (by omega));clear HI;obtain ⟨la,lc,rfl⟩:=zl O0.out;have kb:=zi (fun _=>False) wr (.cells #[.int .u8 ((a:Int) / 256),.int .u8 ((a:Int) % 256)] 5);have SU:=ze (show (wr.alloc (.cells #[.int .u8 ((a:Int) / 256),.int .u8 ((a:Int) % 256)] 5)).ownsRow 0 5 1 (.slice (some ⟨wr.heap.size,0,none⟩) 2 2) 2 [.int .u8 ((a:Int) / 256),.int .u8 ((a:Int) % 256)] from ⟨rfl,.inr ⟨wr.heap.size,2,_,rfl,Nat.zero_le _,zh _ _,zrj _,by unfold maxLen;omega,rfl,rfl⟩⟩);have OU:=ze (zn O0.out kb (fun _ _ e=>e));have KU:=ze (K0.out.trans kb);clear kb O0 K0;go_wp2_with (at_builtin;refine zbJ rfl (.tmp 16) (.tmp 22) 112 rfl 5 1 1 Tryz.underlying112 Tryz.elemByte w.heap.size _ _ _ rfl OU.out 0 _ _ _ rfl SU.out (by intro z hz;simp at hz;rcases hz with rfl | rfl <;> rfl) (by omega) (by unfold maxLen;omega) ?a1 ?nx1)
   case a1=>simp;omega
   intro v5 w5 o5 g5;have K5:=ze (KU.out.own OU.out (Chg.of_grown g5));rw [V1.out,V2.out] at o5;have O5:=ze (show w5.ownsRow w.heap.size 5 1 v5 2 (zcz (Zg [a])) from o5);clear o5 g5 OU KU SU V1 V2;obtain ⟨l5,c5,rfl⟩:=zl O5.out;go_wp2;go_roundw
   case rel=>exact ⟨1,by omega,by go_num,ze ⟨O5.out,K5.out⟩⟩
   case measure=>simp [intOf]
  ·obtain rfl:k=1:=by omega
   have K1:=ze HI.out.2;obtain ⟨ra,rc,rfl,hrl,hcl⟩:=XY (n:=2) (xs:=zcz (Zg [a])) HI.out.1;obtain ⟨g2,rfl,_,_⟩:=hcl 0 _ (zbs (Zg [a]) 0 (by simp [Zg]))
   have hcv:=run_convert_bytes_arg (P:=Tryz.prog) wr 112 5 Tryz.underlying112 Tryz.underlying5 g2 0 2 rc ((Zg [a]).map fun c=>(c.toNat:Int)) (by simp [Zg])
    (fun i hi=>by
     obtain ⟨g',e',_,cx⟩:=hcl i _ (zbs (Zg [a]) i (by simpa [Zg] using hi));cases e';rw [Nat.zero_add];exact cx) 57 Tryz.underlying57
   rw [zaR] at hcv;clear hcl HI;go_wp2;go_ret;exact ⟨rfl,K1.out⟩
def zp7 (v:Value):Option (DataW Value × List MemPlace):=some (.held v,[])
def zox (D:DataW Value) (f:Lit->Option Value):Prop:=∀ kl,Maps.has D kl=(f kl).isSome∧∀ v,f kl=some v->∀ z,D.atKey kl z=.held v
def zeV (P:Program) (k:TypeId) (w:World) (b m:Nat) (f:Lit->Option Value):Prop:=
 ∃ D:DataW Value,w.ownsMap P k zp7 b m D∧Maps.size D=m∧zox D f
open Classical in
noncomputable def zoE (f:Lit->Option Value) (kl:Lit) (d:Option Value):Lit->Option Value:=fun x=>if x=kl then d else f x
theorem zec (f:Lit->Option Value) (kl:Lit) (d:Option Value):zoE f kl d kl=d:=if_pos rfl
theorem zcP (f:Lit->Option Value) {kl x:Lit} (h:x≠kl) (d:Option Value):zoE f kl d x=f x:=if_neg h
theorem zga {H:Type} {P:Program} {k:TypeId} {R:Value->Option (DataW H × List MemPlace)} {w:World} {b n:Nat} {D:DataW H} (h:w.ownsMap P k R b n D):w.ownsMap P k R b (Maps.size D) D:=by
 obtain ⟨es,clock,hb,F,_,rfl⟩:=h;exact ⟨es,clock,hb,F,by simp [Maps.size,length_sorted],rfl⟩
theorem znw {D:DataW Value} {f:Lit->Option Value} (q:zox D f) (kl:Lit) (z:Value):D.atKey kl (.held z)=.held ((f kl).getD z):=by
 obtain ⟨h1,h2⟩:=q kl;cases hf:f kl with
 | none=>rw [hf] at h1;exact atKey_of_not_has h1 _
 | some d=>exact h2 d hf _
theorem zlE {D:DataW Value} {f:Lit->Option Value} (q:zox D f) (hD:IsMap D) {kl:Lit} (hk:WideAt.IsKeyLit kl) (v:Value):zox (D.put kl (.held v)) (zoE f kl (some v)):=by
 intro x;by_cases hx:x=kl
 ·subst hx
  rw [zec];exact ⟨has_put_same hD hk _,fun d e z=>by cases e;exact atKey_put_same hD hk _ z⟩
 ·rw [zcP f hx,has_put_other hx]
  exact ⟨(q x).1,fun d e z=>by rw [atKey_put_other hx];exact (q x).2 d e z⟩
theorem znF {v:Value} {d:Value} {ps:List MemPlace} (h:zp7 v=some (.held d,ps)):v=d:=by
 unfold zp7 at h;cases h;rfl
section
variable {P:Program} {k e:TypeId} {w:World} {b m:Nat} {f:Lit->Option Value}
theorem zeV.made (P:Program) (k:TypeId) (w:World):zeV P k (w.alloc (.map #[] 0)) w.heap.size 0 (fun _=>none):=
 ⟨.map [],World.ownsMap_made w P k _,rfl,fun _=>⟨rfl,fun d h=>by cases h⟩⟩
theorem zeV.chg {S:Nat->Prop} {w':World} (h:zeV P k w b m f) (hc:Chg S w w') (hs:¬ S b):zeV P k w' b m f:=by
 obtain ⟨D,⟨es,clock,hh,r⟩,q⟩:=h;exact ⟨D,⟨es,clock,hc.obj hs hh,r⟩,q⟩
theorem zeV.lt (h:zeV P k w b m f):b < w.heap.size:=by
 obtain ⟨D,h,q⟩:=h;exact h.lt
theorem zeV.ne_cells (h:zeV P k w b m f) {g:Nat} {cs:Array Value} {t:TypeId} {fz:Nat × Nat} (hg:w.heap[g]? = some (.cells cs t fz)):g≠b:=by
 obtain ⟨D,⟨es,clock,hh,r⟩,q⟩:=h;intro e;rw [e,hh] at hg;cases hg
theorem zeV.put {t:TypeId} (h:zeV P k w b m f) (K:Keyed P k) (ht:P.underlying t=some (.map k e)) (hn:m < maxLen) {key val:Value} {kl:Lit} (hkey:keyOf P k key=some kl):
  ∃ w',(Instr.mapUpdate t (.map (some b)) key val).run P w=.ok () w'∧zeV P k w' b (if (f kl).isSome=true then m else m+1) (zoE f kl (some val))∧Chg (·=b) w w':=by
 obtain ⟨D,h,hm,q⟩:=h;obtain ⟨w',hr,h1,h2⟩:=h.update K ht hn hkey (show zp7 val=some (.held val,[]) from rfl)
 have hz:Maps.size (D.put kl (.held val))=if (f kl).isSome=true then m else m+1:=by
  rw [size_put (h.tidy K),hm,(q kl).1]
 refine ⟨w',hr,⟨_,?_,hz,zlE q h.isMap (K.key hkey) val⟩,(Chg.of_grown h2).mono (fun x _ e=>by cases e;rfl)⟩;have:=zga h1;rwa [hz] at this
end
section
variable {P:Program} {w:World} {ops:Array Oper} {rest:List Oper} {o:Oper} {a:Act} {Q:Exit->Act->World->Prop}
theorem YL (hg:o.guard=none) (m x:Operand) (t:TypeId) (hop:o.op=Op.lookup t m x true) (k e:TypeId) (K:Keyed P k) (ht:P.underlying t=some (.map k e)) (z:Value) (hz:(zeroValue e).run P w=.ok z w)
  (b n:Nat) (f:Lit->Option Value) (hm:a.eval m=.map (some b)) (hown:zeV P k w b n f) (key:Value) (kl:Lit) (hx:a.eval x=key) (hkey:keyOf P k key=some kl)
  (v:Value) (r:Bool) (hv:(f kl).getD z=v) (hr:(f kl).isSome=r) (hK:wpList P ops Q rest (a.put o.dst (.tuple #[v,.bool r])) w):wpList P ops Q (o :: rest) a w:=by
 refine wpList_plain hg fun K' hK'=>?_;obtain ⟨D,h,_,q⟩:=hown;obtain ⟨v',ps,hrun,hv'⟩:=h.look_ok K ht hz (show zp7 z=some (.held z,[]) from rfl) hkey;rw [znw q,hv] at hv';have hv':=znF hv';subst hv';rw [(q kl).1,hr] at hrun;unfold Oper.wp;simp [execOp,hop,hm,hx,hrun,Result.andThen];exact hK' _ _ hK
theorem zan (hg:o.guard=none) (m x v:Operand) (t:TypeId) (hop:o.op=Op.mapUpdate t m x v) (k e:TypeId) (K:Keyed P k) (ht:P.underlying t=some (.map k e)) (b n:Nat) (f:Lit->Option Value)
  (hm:a.eval m=.map (some b)) (hown:zeV P k w b n f) (hn:n < maxLen) (key val:Value) (kl:Lit) (hx:a.eval x=key) (hv:a.eval v=val) (hkey:keyOf P k key=some kl)
  (hK:∀ w' n',zeV P k w' b n' (zoE f kl (some val))->((f kl).isSome=true->n'=n)->((f kl).isSome=false->n'=n+1)->n'<=n+1->Chg (·=b) w w'->wpList P ops Q rest (a.put o.dst undef) w'):wpList P ops Q (o :: rest) a w:=by
 refine wpList_plain hg fun K' hK'=>?_;obtain ⟨w',hrun,r1,r2⟩:=hown.put (val:=val) K ht hn hkey;unfold Oper.wp;simp [execOp,hop,hm,hx,hv,hrun,Result.andThen];refine hK' _ _ (hK w' _ r1 (fun h=>by rw [if_pos h]) (fun h=>by rw [h];rfl) (by split <;> omega) r2)
end
end Go.Proofs.YthdfplafihmejaaGreat
