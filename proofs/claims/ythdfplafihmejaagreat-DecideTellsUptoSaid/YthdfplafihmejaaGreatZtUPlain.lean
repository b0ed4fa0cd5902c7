/-
  Package acl: fits, Fits, Ask. Package acl: Ask. Proofs in plain Lean: the numbers of rules, what is needed, what is cut. Proofs in memory, and what the argument's reading says of one. What the arguments' readings say: proofs. What is accepted, in plain Lean. What is accepted without one that isn't, in plain Lean. What the laws of what is accepted lean on, in plain Lean.
-/
import Derived.Test.YthdfplafihmejaaGreatZtANew
import Derived.Test.YthdfplafihmejaaGreatZtCLike
import Derived.Test.YthdfplafihmejaaGreatZtCMap
import Derived.Test.YthdfplafihmejaaGreatZtRTell1
namespace Go.Proofs.YthdfplafihmejaaGreat
open Go.RowKit Go.Maps
def zeM (c l:List ByteArray):Bool:=l.any (Xw c)
def zjs (R:List zF) (b:Int) (c:List ByteArray) (x:ByteArray):Bool:=zeM c (Xz R x b)
def zak (R:List zF) (b:Int) (c:List ByteArray):Int->List ByteArray->Int
 | a,[]=>a
 | a,x :: r=>if zH R x b≠0 then 2 else zak R b c (if zjs R b c x=true then a else 0) r
def zcZ (R:List zF) (b:Int) (c s:List ByteArray):Int:=zak R b c 1 s
theorem zfC {R:List zF} {b:Int} {c l:List ByteArray} {a:Int} {k:Nat} {x:ByteArray} (hx:l[k]? = some x):zak R b c a (l.drop k)=if zH R x b≠0 then 2 else zak R b c (if zjs R b c x=true then a else 0) (l.drop (k+1)):=by
 have hl:=(zq1.1 hx).1;rw [List.drop_eq_getElem_cons hl,(zq1.1 hx).2,zak]
def zpK (ok:Bool) (b:Int) (n:Nat):Int:=if ok=true then (if b < 1∨5000 < b then 1 else if 400 < n then 3 else 0) else 2
def yE (R:List zF) (b:Int) (c:List ByteArray) (op:Int):Nat->Int->List Za->Int × Int
 | _,a,[]=>(a,-1)
 | i,a,x :: r=>if x.1=op then (if zcZ R b c x.2=1 then (1,(i:Int)) else yE R b c op (i+1) (if zcZ R b c x.2=2 then 2 else a) r) else yE R b c op (i+1) a r
theorem zfL {R:List zF} {b:Int} {c:List ByteArray} {op:Int} {L:List Za} {a:Int} {k:Nat} {x:Za} (hx:L[k]? = some x):yE R b c op k a (L.drop k)=if x.1=op then (if zcZ R b c x.2=1 then (1,(k:Int)) else yE R b c op (k+1) (if zcZ R b c x.2=2 then 2 else a) (L.drop (k+1))) else yE R b c op (k+1) a (L.drop (k+1)):=by
 have hl:=(zq1.1 hx).1;rw [List.drop_eq_getElem_cons hl,(zq1.1 hx).2,yE]
def zcB (R:List zF) (b:Int) (c:List ByteArray) (op:Int):Int:=if zaJ c=true then (if op < 0∨8<=op then 1 else zpK true b R.length) else 2
def Few (R:List zF):Prop:=(R.length<=400∧∀ r∈R,r.1.size<=400)∨400 < R.length
theorem zfa {w w1:World} {rv sv:Value} {R:List zF} {G:Nat->Prop} {s:List ByteArray} (hR:zX w rv (· < w.heap.size) R) (hf:Few R) (hs:zx w sv G s) (k:Chg (fun _=>False) w w1) {j:Nat} {x:ByteArray} (hx:s[j]? = some x):zbA w1 rv R x:=by
 obtain ⟨_,_,_,_,hc⟩:=hs;obtain ⟨_,_,_,_,_,q⟩:=hc j x hx;exact ⟨zat hR k,hf,q⟩
theorem zmy (w:World) (cv:Value) (c:List ByteArray) (G:Nat->Prop) (x:ByteArray) (p:Nat) (hp:w.cell? ⟨p,0,none⟩=some cv) (hc:zx w cv G c):
  Calls Tryz.prog 136 #[.string x,.pointer (some ⟨p,0,none⟩)] w fun e w'=>e=.returned (.bool (Xw c x))∧w=w':=by
 have HA:=ze (zpz w cv G c x hc);obtain ⟨la,cap,rfl,_,_⟩:=hc;go_enter Tryz.func136,Tryz.ntmps136;go_wp2_with fail;(with_reducible refine HA.out.mono ?_);rintro e w2 ⟨rfl,rfl⟩;go_wp2;go_ret;exact ⟨rfl,rfl⟩
theorem zm0 {c l:List ByteArray} {k:Nat} {x:ByteArray} (hx:l[k]? = some x):zeM c (l.take (k+1))=(zeM c (l.take k) || Xw c x):=by
 unfold zeM;rw [zri,hx,List.any_append];simp
set_option maxRecDepth 100000 in
theorem zkK (w:World) (v cv:Value) (l c:List ByteArray) (G G':Nat->Prop) (p:Nat) (hp:w.cell? ⟨p,0,none⟩=some cv) (hc:zx w cv G c) (hv:zx w v G' l):
  Calls Tryz.prog 155 #[v,.func (.func 136) #[] #[.pointer (some ⟨p,0,none⟩)]] w fun e w'=>(∃ i:Int,e=.returned (.int .i64 i)∧decide (0<=i)=zeM c l)∧w=w':=by
 have FI:=ze (fun x=>zmy w cv c G x p hp hc);obtain ⟨la,cap,rfl,hl0,hcl⟩:=hv;have HCL:=ze hcl;unfold maxLen at hl0;clear hcl hp hc;go_enter Tryz.func155,Tryz.ntmps155;go_wp2;go_loop [8] (fun iv=>∃ k:Nat,k<=l.length∧iv=.int .i64 k∧Hid (zeM c (l.take k)=false)) (fun iv=>l.length - (intOf iv).toNat)
 case atStart=>exact ⟨0,by omega,rfl,ze rfl⟩
 case round=>
  obtain ⟨k,hk,rfl,HI⟩:=hrel;by_cases hlt:k < l.length
  ·obtain ⟨x,hx⟩:∃ x,l[k]? = some x:=⟨_,zq0 hlt⟩
   obtain ⟨lb,lo,rfl,_,c0,_⟩:=HCL.out k x hx;have F:=ze (FI.out x);have AT:=ze (zm0 (c:=c) hx);have HX:=ze hx;clear hx FI;generalize hb:Xw c x=r at *;have HB:=ze hb;clear hb;cases r with
   | true=>
    have R:=ze (show zeM c l=true from by
     unfold zeM;rw [List.any_eq_true];exact ⟨x,zq2 HX.out,HB.out⟩)
    clear HI AT;go_wp2_with fail;(with_reducible refine F.out.mono ?_);rintro e w2 ⟨rfl,rfl⟩;go_wp2;go_ret;exact ⟨⟨_,rfl,by rw [R.out];exact zqY (by omega)⟩,rfl⟩
   | false=>
    have HI2:=ze (show zeM c (l.take (k+1))=false from by rw [AT.out,HI.out];rfl);clear HI AT;go_wp2_with fail;(with_reducible refine F.out.mono ?_);rintro e w2 ⟨rfl,rfl⟩;go_wp2;go_round
    case rel=>exact ⟨k+1,by omega,by go_num,HI2⟩
    case measure=>simp [intOf];omega
  ·obtain rfl:k=l.length:=by omega
   rw [zrk] at HI;go_wp2;go_ret;exact ⟨⟨-1,rfl,by rw [HI.out];rfl⟩,rfl⟩
set_option maxRecDepth 100000 in
theorem zgm (w:World) (v cv:Value) (l c:List ByteArray) (G G':Nat->Prop) (p:Nat) (hp:w.cell? ⟨p,0,none⟩=some cv) (hc:zx w cv G c) (hv:zx w v G' l):
  Calls Tryz.prog 135 #[v,.func (.func 136) #[] #[.pointer (some ⟨p,0,none⟩)]] w fun e w'=>e=.returned (.bool (zeM c l))∧w=w':=by
 have IX:=ze (zkK w v cv l c G G' p hp hc hv);obtain ⟨la,cap,rfl,hl0,hcl⟩:=hv;clear hcl hp hc;generalize zeM c l=r at *;go_enter Tryz.func135,Tryz.ntmps135;go_wp2_with fail;(with_reducible refine IX.out.mono ?_);rintro e w2 ⟨⟨i,rfl,hi⟩,rfl⟩;go_wp2;go_ret;exact ⟨rfl,rfl⟩
set_option maxHeartbeats 1000000 in
set_option maxRecDepth 100000 in
theorem zn7 (w:World) (rv sv cv:Value) (R:List zF) (s c:List ByteArray) (b:Int) (G G':Nat->Prop) (hR:zX w rv (· < w.heap.size) R) (hf:Few R) (hs:zx w sv G s) (hc:zx w cv G' c):
  Calls Tryz.prog 120 #[rv,sv,cv,.int .i64 b] w fun e w'=>e=.returned (.int .i64 (zcZ R b c s))∧Chg (fun _=>False) w w':=by
 have ALL:=ze (fun w1 (k:Chg (fun _=>False) w w1) j x (hx:s[j]? = some x)=>zhG (b:=b) (zfa hR hf hs k hx));have HC:=ze hc;have HS:=ze hs;obtain ⟨ra,rcap,rfl,_,_⟩:=hR;obtain ⟨sa,scap,rfl,hl0,_⟩:=hs;obtain ⟨ca,ccap,rfl,hl1,_⟩:=hc;unfold maxLen at hl0 hl1;clear hf;have ST:=ze (show zcZ R b c s=zak R b c 1 (s.drop 0) from rfl);generalize zcZ R b c s=res at *;go_enter Tryz.func120,Tryz.ntmps120;go_wp2;have ka:=zi (fun _=>False) w (.cells #[.slice ca c.length ccap] 26);have OB:=ze (zh w (.cells #[.slice ca c.length ccap] 26));have KA:=ze ka;clear ka;go_loopw [9,16] (fun av iv wr=>∃ (k:Nat) (a:Int),k<=s.length∧iv=.int .i64 k∧av=.int .i64 a∧Hid (res=zak R b c a (s.drop k)∧Chg (fun _=>False) (w.alloc (.cells #[.slice ca c.length ccap] 26)) wr)) (fun _ iv _=>s.length - (intOf iv).toNat)
 case atStart=>exact ⟨0,1,by omega,rfl,rfl,ze ⟨ST.out,Chg.refl _ _⟩⟩
 case round=>
  obtain ⟨k,a,hk,rfl,rfl,HI⟩:=hrel;have KW:=ze (KA.out.trans HI.out.2);by_cases hlt:k < s.length
  ·obtain ⟨x,hx⟩:∃ x,s[k]? = some x:=⟨_,zq0 hlt⟩
   obtain ⟨sa',scap',e1,_,hcl⟩:=HS.out.chg KW.out (fun _ _ e=>e);cases e1;obtain ⟨lb,lo,rfl,_,c0,_⟩:=hcl k x hx;have AL:=ze (ALL.out wr KW.out k x hx);have FS:=ze (show res=if zH R x b≠0 then 2 else zak R b c (if zjs R b c x=true then a else 0) (s.drop (k+1)) from by rw [HI.out.1];exact zfC hx);have KI:=ze HI.out.2;clear hcl hx HI;by_cases he:zH R x b=0
   ·rw [he] at AL
    have FS2:=ze (show res=zak R b c (if zjs R b c x=true then a else 0) (s.drop (k+1)) from by rw [FS.out,if_neg (by rw [he];simp)]);have MB:=ze (show zjs R b c x=zeM c (Xz R x b) from rfl);clear FS he;generalize Xz R x b=T at *;go_wp2_with fail;(with_reducible refine AL.out.mono ?_);rintro e w2 ⟨va,rfl,hva,k2⟩;have K2:=ze (KI.out.trans k2);have KW2:=ze (KW.out.trans k2);have ob:=K2.out.obj (fun e=>e) OB.out;have CT:=ze (zgm w2 va (.slice ca c.length ccap) T c G' _ w.heap.size (zf ob rfl) (HC.out.chg KW2.out (fun _ _ e=>e)) hva);obtain ⟨va1,va2,eva,_,_⟩:=hva;subst eva;generalize hm:zeM c T=m at *;clear k2 ob AL KI KW hm;cases m with
    | true=>
     have FS3:=ze (show res=zak R b c a (s.drop (k+1)) from by rw [FS2.out,MB.out];rfl);clear FS2 MB;go_wp2_with fail;(with_reducible refine CT.out.mono ?_);rintro e w3 ⟨rfl,rfl⟩;go_wp2;go_roundw
     case rel=>exact ⟨k+1,a,by omega,by go_num,rfl,ze ⟨FS3.out,K2.out⟩⟩
     case measure=>simp [intOf];omega
    | false=>
     have FS3:=ze (show res=zak R b c 0 (s.drop (k+1)) from by rw [FS2.out,MB.out];rfl);clear FS2 MB;go_wp2_with fail;(with_reducible refine CT.out.mono ?_);rintro e w3 ⟨rfl,rfl⟩;go_wp2;go_roundw
     case rel=>exact ⟨k+1,0,by omega,by go_num,rfl,ze ⟨FS3.out,K2.out⟩⟩
     case measure=>simp [intOf];omega
   ·have R2:=ze (show res=2 from by rw [FS.out,if_pos he])
    have g1:(zH R x b != 0)=true:=by rw [zre];exact he
    have g2:(zH R x b == 0)=false:=by rw [zq9];exact he
    clear FS he;generalize zH R x b=ek at *;go_wp2_with fail;(with_reducible refine AL.out.mono ?_);rintro e w2 ⟨va,rfl,⟨va1,va2,rfl,_,_⟩,k2⟩;have K2:=ze (KW.out.trans k2);clear k2 AL;go_wp2;go_ret;exact ⟨by rw [R2.out];rfl,K2.out⟩
  ·obtain rfl:k=s.length:=by omega
   have R:=ze (show res=a from by rw [HI.out.1,List.drop_length];rfl);go_wp2;go_ret;exact ⟨by rw [R.out];rfl,KW.out⟩
theorem zoK {b:Int} {n:Nat} {ok:Bool} (h:zpK ok b n=0):ok=true∧1<=b∧b<=5000∧n<=400:=by
 unfold zpK at h;cases ok with
 | false=>simp at h
 | true=>
  by_cases h1:b < 1∨5000 < b
  ·simp [h1] at h
  ·by_cases h2:400 < n
   ·simp [h1,h2] at h
   ·exact ⟨rfl,by omega,by omega,by omega⟩
theorem ziO (w:World) (b:Int) (h1:1<=b) (h2:b<=5000):Calls Tryz.prog 119 #[.int .i64 b] w fun e w'=>e=.returned (.bool true)∧w=w':=by
 have g3:decide (1<=b)=true:=zqY h1;have g4:decide (b<=5000)=true:=zqY h2;go_enter Tryz.func119,Tryz.ntmps119;go_wp2;go_ret;exact ⟨rfl,rfl⟩
set_option maxHeartbeats 2000000 in
set_option maxRecDepth 100000 in
theorem zqm (w:World) (b0:Nat) (ty:TypeId) (L:List Za) (ver:Nat) (rv cv:Value) (R:List zF) (c:List ByteArray) (op b:Int) (G G':Nat->Prop) (hl:Yk w b0 ty G L ver) (hL:L.length<=1000) (hR:zX w rv (· < w.heap.size) R) (hf:Few R) (hc:zx w cv G' c) (h0:zcB R b c op=0):
  Calls Tryz.prog 91 #[.pointer (some ⟨b0,0,none⟩),rv,.int .i64 op,cv,.int .i64 b] w fun e w'=>e=.returned (.tuple #[.int .i64 (yE R b c op 0 0 L).1,.int .i64 (yE R b c op 0 0 L).2,.int .i64 0])∧Chg (fun _=>False) w w':=by
 have M1:=ze (zbh w cv G' c hc);have FI:=ze (fun w1 (q:Chg (fun _=>False) w w1) sv s (hs:zx w1 sv G s)=>zn7 w1 rv sv cv R s c b G G' (zat hR q) hf hs (hc.chg q (fun _ _ e=>e)));obtain ⟨la,cap,h1,h2,hcap,hcm⟩:=hl.open
 have H1:=ze h1;have H2:=ze h2;obtain ⟨ra,rcap,rfl,hl0,_⟩:=hR;obtain ⟨ca,ccap,rfl,hl1,_⟩:=hc;unfold maxLen at hl0 hl1 hcm
 obtain ⟨q1,q2⟩:zaJ c=true∧¬ (op < 0∨8<=op)∧zpK true b R.length=0:=by
  unfold zcB at h0;cases hb:zaJ c with
  | false=>rw [hb] at h0;simp at h0
  | true=>
   rw [hb,if_pos rfl] at h0;by_cases h:op < 0∨8<=op
   ·rw [if_pos h] at h0;simp at h0
   ·rw [if_neg h] at h0;exact ⟨rfl,h,h0⟩
 obtain ⟨_,q3,q4,q5⟩:=zoK q2.2;have q6:=q2.1;rw [q1] at M1;have g1:decide (op < 0)=false:=zqZ (by omega);have g2:decide (8<=op)=false:=zqZ (by omega);have g3:decide (1<=b)=true:=zqY (by omega);have g4:decide (b<=5000)=true:=zqY (by omega);have g5:decide (400 < (R.length:Int))=false:=zqZ (by omega);clear hl h1 h2 hf h0 q1 q2 q6;have ST:=ze (show yE R b c op 0 0 L=yE R b c op 0 0 (L.drop 0) from rfl);generalize yE R b c op 0 0 L=res at *;go_enter Tryz.func91,Tryz.ntmps91;go_wp2_with fail;(with_reducible refine M1.out.mono ?_);rintro e w2 ⟨rfl,d2⟩;have K2:=ze (show Chg (fun _=>False) w w2 from d2.chg);have c0:w2.cell? ⟨b0,0,none⟩=some (.slice la L.length cap):=zf (K2.out.obj (fun e=>e) H1.out) rfl;clear d2 M1;have BO:=ze (ziO w2 b q3 q4);go_wp2_with fail;(with_reducible refine BO.out.mono ?_);rintro e w3 ⟨rfl,rfl⟩;clear BO;go_wp2;go_loopw [13,41] (fun av iv wr=>∃ (k:Nat) (a:Int),k<=L.length∧iv=.int .i64 k∧av=.int .i64 a∧Hid (res=yE R b c op k a (L.drop k)∧Chg (fun _=>False) w wr)) (fun _ iv _=>L.length - (intOf iv).toNat)
 case atStart=>exact ⟨0,0,by omega,rfl,rfl,ze ⟨ST.out,K2.out⟩⟩
 case round=>
  obtain ⟨k,a,hk,rfl,rfl,HI⟩:=hrel;by_cases hlt:k < L.length
  ·obtain ⟨x,hx⟩:∃ x,L[k]? = some x:=⟨_,zq0 hlt⟩
   obtain ⟨g,o,sa,sc,rfl,_,d0,d1,hs⟩:=(H2.out.chg HI.out.2 (fun _ _ e=>e)).get hx;have ka:=zi (fun _=>False) wr (.cells #[.int .i64 x.1,.slice sa x.2.length sc] 56);have KW:=ze (HI.out.2.trans ka);have F:=ze (FI.out _ KW.out _ x.2 (hs.at_.chg ka (fun _ _ e=>e)));have STP:=ze (show res=if x.1=op then (if zcZ R b c x.2=1 then (1,(k:Int)) else yE R b c op (k+1) (if zcZ R b c x.2=2 then 2 else a) (L.drop (k+1))) else yE R b c op (k+1) a (L.drop (k+1)) from by rw [HI.out.1];exact zfL hx);clear HI hx hs ka;generalize zcZ R b c x.2=f at *;obtain ⟨oq,l⟩:=x;simp only at d0 d1 F STP KW;by_cases hop:oq=op
   ·have e1:(oq != op)=false:=by rw [zrf];exact hop
    have e2:(oq == op)=true:=beq_iff_eq.2 hop;by_cases hf1:f=1
    ·have R1:=ze (show res=(1,(k:Int)) from by rw [STP.out,if_pos hop,if_pos hf1])
     subst hf1;clear STP hop;go_wp2_with fail;(with_reducible refine F.out.mono ?_);rintro e w4 ⟨rfl,k4⟩;have K4:=ze (KW.out.trans k4);clear k4 F;go_wp2;refine bodyPost_ret (v:=.tuple #[.int .i64 1,.int .i64 k,.int .i64 0]) (by simp [results,Tryz.results91,go_sem]) rfl ?_;exact ⟨by rw [R1.out],K4.out⟩
    ·have m1:(f == 1)=false:=zq9.2 hf1
     by_cases hf2:f=2
     ·have R2:=ze (show res=yE R b c op (k+1) 2 (L.drop (k+1)) from by rw [STP.out,if_pos hop,if_neg hf1,if_pos hf2])
      subst hf2;clear STP hop hf1;go_wp2_with fail;(with_reducible refine F.out.mono ?_);rintro e w4 ⟨rfl,k4⟩;have K4:=ze (KW.out.trans k4);clear k4 F;go_wp2;go_roundw
      case rel=>exact ⟨k+1,2,by omega,by go_num,rfl,ze ⟨R2.out,K4.out⟩⟩
      case measure=>simp [intOf];omega
     ·have m2:(f == 2)=false:=zq9.2 hf2
      have R2:=ze (show res=yE R b c op (k+1) a (L.drop (k+1)) from by rw [STP.out,if_pos hop,if_neg hf1,if_neg hf2]);clear STP hop hf1 hf2;go_wp2_with fail;(with_reducible refine F.out.mono ?_);rintro e w4 ⟨rfl,k4⟩;have K4:=ze (KW.out.trans k4);clear k4 F;go_wp2;go_roundw
      case rel=>exact ⟨k+1,a,by omega,by go_num,rfl,ze ⟨R2.out,K4.out⟩⟩
      case measure=>simp [intOf];omega
   ·have e1:(oq != op)=true:=by rw [zre];exact hop
    have e2:(oq == op)=false:=zq9.2 hop;have R2:=ze (show res=yE R b c op (k+1) a (L.drop (k+1)) from by rw [STP.out,if_neg hop]);clear STP hop F;go_wp2;go_roundw
    case rel=>exact ⟨k+1,a,by omega,by go_num,rfl,ze ⟨R2.out,KW.out⟩⟩
    case measure=>simp [intOf];omega
  ·obtain rfl:k=L.length:=by omega
   have R:=ze (show res=(a,-1) from by rw [HI.out.1,List.drop_length];rfl);go_wp2;refine bodyPost_ret (v:=.tuple #[.int .i64 a,.int .i64 (-1),.int .i64 0]) (by simp [results,Tryz.results91,go_sem]) rfl ?_;exact ⟨by rw [R.out],HI.out.2⟩
abbrev zE:=List (Int × Int)
structure zP where
 cert:Int
 paths:List zE
structure zL where
 items:List zP
 steps:zE
def zdu (C:List zq) (k:Int):Nat:=match C[k.toNat]? with
 | some c=>c.fr.length
 | none=>0
def tot (C:List zq) (I:List zP) (k:Nat):Nat:=((I.take k).map fun x=>zdu C x.cert).sum
theorem zb8 (C:List zq) (I:List zP):tot C I 0=0:=by simp [tot]
theorem zdy {C:List zq} {I:List zP} {k:Nat} {x:zP} (h:I[k]? = some x):tot C I (k+1)=tot C I k+zdu C x.cert:=by
 unfold tot;rw [zri,h];simp
theorem zi4 (C:List zq) (I:List zP) (k:Nat):tot C I k<=tot C I (k+1):=by
 cases h:I[k]? with
 | some x=>rw [zdy h];omega
 | none=>
  have:=List.getElem?_eq_none_iff.1 h;unfold tot;rw [List.take_of_length_le this,List.take_of_length_le (by omega)];exact zrj _
theorem zbg (C:List zq) (I:List zP) {i j:Nat} (h:i<=j):tot C I i<=tot C I j:=by
 induction h with
 | refl=>exact zrj _
 | step _ ih=>exact Nat.le_trans ih (zi4 C I _)
theorem zb9 {C:List zq} {m:Nat} (hC:∀ c∈C,c.fr.length<=m) (I:List zP) (k:Nat):tot C I k<=k*m:=by
 induction k with
 | zero=>rw [zb8];omega
 | succ k ih=>
  cases h:I[k]? with
  | some x=>
   rw [zdy h,Nat.succ_mul]
   have:zdu C x.cert<=m:=by
    unfold zdu;split
    ·rename_i c hc
     exact hC c (zq2 hc)
    ·exact Nat.zero_le _
   omega
  | none=>
   have h2:=List.getElem?_eq_none_iff.1 h
   have e:tot C I (k+1)=tot C I k:=by
    unfold tot;rw [List.take_of_length_le h2,List.take_of_length_le (by omega)]
   rw [e,Nat.succ_mul];omega
def xO (roots:Int) (n:Nat) (s:Int × Int):Bool:=decide (0<=s.2) && decide (s.2 < roots+n)
def yP (roots:Int) (n:Nat) (l:zE):Bool:=l.all (xO roots n)
def zes (roots:Int) (C:List zq) (I:List zP) (k:Nat) (x:zP):Bool:=decide (0<=x.cert) && (decide (x.cert < C.length) && x.paths.all (yP roots (tot C I k)))
def yM (C:List zq) (I:List zP) (k:Nat):List Nat:=(List.range k).map (tot C I)
theorem zgq (C:List zq) (I:List zP) (k:Nat):yM C I (k+1)=yM C I k++[tot C I k]:=by
 unfold yM;rw [List.range_succ,List.map_append];rfl
theorem YY (C:List zq) (I:List zP) (k:Nat):(yM C I k).length=k:=by unfold yM;simp
def zN (C:List zq) (I:List zP):List Nat:=yM C I (I.length+1)
theorem zaF (C:List zq) (I:List zP):(zN C I).length=I.length+1:=YY _ _ _
theorem zfJ {C:List zq} {I:List zP} {k:Nat} (h:k<=I.length):(zN C I)[k]? = some (tot C I k):=by
 unfold zN yM;rw [zrb,List.getElem?_range (by omega)];rfl
structure yF (roots:Int) (C:List zq) (p:zL):Prop where
 root:0<=roots
 item:∀ (k:Nat) x,p.items[k]? = some x->zes roots C p.items k x=true
 last:yP roots (tot C p.items p.items.length) p.steps=true
def Xq (roots:Int) (B:List Nat) (r:Int):Option Nat:=if r < roots then none else some (B.countP (fun b=>decide (b<=(r - roots).toNat)) - 1)
def zge (roots:Int) (B:List Nat) (need:List Bool) (s:Int × Int):List Bool:=match Xq roots B s.2 with
 | some i=>need.set i true
 | none=>need
def za3 (roots:Int) (B:List Nat) (need:List Bool) (l:zE):List Bool:=l.foldl (zge roots B) need
def zds (roots:Int) (B:List Nat) (need:List Bool) (ps:List zE):List Bool:=ps.foldl (za3 roots B) need
def zc5 (roots:Int) (B:List Nat) (I:List zP) (need:List Bool) (k:Nat):List Bool:=match need[k]? with
 | some true=>(match I[k]? with
  | some x=>zds roots B need x.paths
  | none=>need)
 | _=>need
def YG (roots:Int) (B:List Nat) (I:List zP):Nat->List Bool->List Bool
 | 0,need=>need
 | k+1,need=>YG roots B I k (zc5 roots B I need k)
def xh (roots:Int) (B:List Nat) (p:zL):List Bool:=YG roots B p.items p.items.length (za3 roots B (List.replicate p.items.length false) p.steps)
theorem zdh (roots:Int) (B:List Nat) (need:List Bool) (s:Int × Int):(zge roots B need s).length=need.length:=by
 unfold zge;split
 ·exact List.length_set
 ·rfl
theorem YD (roots:Int) (B:List Nat) (l:zE):∀ need:List Bool,(za3 roots B need l).length=need.length:=by
 unfold za3;induction l with
 | nil=>intro need;rfl
 | cons s l ih=>intro need;rw [List.foldl_cons,ih,zdh]
theorem zdi (roots:Int) (B:List Nat) (ps:List zE):∀ need:List Bool,(zds roots B need ps).length=need.length:=by
 unfold zds;induction ps with
 | nil=>intro need;rfl
 | cons s l ih=>intro need;rw [List.foldl_cons,ih,YD]
theorem zdo (roots:Int) (B:List Nat) (I:List zP) (need:List Bool) (k:Nat):(zc5 roots B I need k).length=need.length:=by
 unfold zc5;split
 ·split
  ·exact zdi _ _ _ _
  ·rfl
 ·rfl
theorem zcA (roots:Int) (B:List Nat) (I:List zP):∀ (k:Nat) (need:List Bool),(YG roots B I k need).length=need.length
 | 0,need=>rfl
 | k+1,need=>by unfold YG;rw [zcA,zdo]
theorem zdg (roots:Int) (B:List Nat) (p:zL):(xh roots B p).length=p.items.length:=by unfold xh;rw [zcA,YD,List.length_replicate]
def YU (C:List zq) (I:List zP) (need:List Bool):Nat->Nat
 | 0=>0
 | k+1=>YU C I need k+(if need.getD k false then 0 else tot C I (k+1) - tot C I k)
def ziU (roots:Int) (B:List Nat) (gone:Nat->Nat) (s:Int × Int):Int × Int:=match Xq roots B s.2 with
 | some i=>(s.1,s.2 - gone i)
 | none=>s
def YZ (roots:Int) (B:List Nat) (gone:Nat->Nat) (l:zE):zE:=l.map (ziU roots B gone)
def ziA (roots:Int) (B:List Nat) (gone:Nat->Nat) (need:List Bool) (I:List zP) (i:Nat):Option zP:=match I[i]? with
 | some x=>if need.getD i false then some ⟨x.cert,x.paths.map (YZ roots B gone)⟩ else none
 | none=>none
def za5 (roots:Int) (B:List Nat) (gone:Nat->Nat) (need:List Bool) (I:List zP) (k:Nat):List zP:=(List.range k).filterMap (ziA roots B gone need I)
theorem zax (roots:Int) (B:List Nat) (gone:Nat->Nat) (need:List Bool) (I:List zP) (k:Nat):za5 roots B gone need I (k+1)=za5 roots B gone need I k++(ziA roots B gone need I k).toList:=by
 unfold za5;rw [List.range_succ,List.filterMap_append];cases h:ziA roots B gone need I k with
 | none=>simp [h]
 | some x=>simp [h]
theorem zay (roots:Int) (B:List Nat) (gone:Nat->Nat) (need:List Bool) (I:List zP) (k:Nat):(za5 roots B gone need I k).length<=k:=by
 unfold za5;exact Nat.le_trans (List.length_filterMap_le _ _) (by rw [List.length_range];exact zrj _)
def zgE (roots:Int) (C:List zq) (p:zL):zL:=
 let B:=zN C p.items;let need:=xh roots B p;let gone:=YU C p.items need
 ⟨za5 roots B gone need p.items p.items.length,YZ roots B gone p.steps⟩
theorem zjo {roots:Int} {C:List zq} {I:List zP} {s:Int × Int} {k i:Nat} (hs:xO roots (tot C I k) s=true) (hk:k<=I.length) (h:Xq roots (zN C I) s.2=some i):i < k∧1<=(zN C I).countP (fun b=>decide (b<=(s.2 - roots).toNat)):=by
 unfold xO at hs;rw [zrl,decide_eq_true_eq,decide_eq_true_eq] at hs;unfold Xq at h;split at h
 ·cases h
 rename_i hr;have hq:(s.2 - roots).toNat < tot C I k:=by omega
 generalize (s.2 - roots).toNat=q at h hq ⊢
 have h1:(zN C I).countP (fun b=>decide (b<=q))<=k:=by
  have e:zN C I=yM C I k++(List.range' k (I.length+1 - k)).map (tot C I):=by
   unfold zN yM;rw [<- List.map_append,List.range_eq_range',List.range_eq_range']
   congr 1
   have:=@List.range'_append_1 0 k (I.length+1 - k);rw [Nat.zero_add] at this;rw [this]
   congr 1
   omega
  rw [e,List.countP_append]
  have z:((List.range' k (I.length+1 - k)).map (tot C I)).countP (fun b=>decide (b<=q))=0:=by
   rw [List.countP_eq_zero];intro b hb;obtain ⟨j,hj,rfl⟩:=List.mem_map.1 hb;have:=(List.mem_range'_1.1 hj).1;have:=zbg C I this;simp;omega
  rw [z,Nat.add_zero];refine Nat.le_trans List.countP_le_length ?_;rw [YY];exact zrj _
 have h2:1<=(zN C I).countP (fun b=>decide (b<=q)):=by
  have:0 < (zN C I).countP (fun b=>decide (b<=q)):=by
   rw [List.countP_pos_iff];refine ⟨tot C I 0,?_,?_⟩
   ·exact zq2 (zfJ (k:=0) (Nat.zero_le _))
   ·rw [zb8];simp
  omega
 have e:(zN C I).countP (fun b=>decide (b<=q)) - 1=i:=Option.some.inj h;exact ⟨by omega,h2⟩
structure Yq (w:World) (v:Value) (G:Nat->Prop) (L:zE):Prop where
 at_:Yl w v G L
 nil:∀ n c,v=.slice none n c->n=0∧c=0
theorem Yq.chg {S:Nat->Prop} {w w':World} {v:Value} {G:Nat->Prop} {L:zE} (h:Yq w v G L) (hc:Chg S w w') (hs:∀ k,G k->¬ S k):Yq w' v G L:=⟨h.at_.chg hc hs,h.nil⟩
theorem Yl.up13 {w:World} {v:Value} {G G':Nat->Prop} {L:zE} (h:Yl w v G L) (hg:∀ k,G k->G' k):Yl w v G' L:=by
 obtain ⟨la,cap,h1,h2,h3⟩:=h;exact ⟨la,cap,h1,h2,fun j r hj=>by obtain ⟨lb,lo,q1,q2,q3⟩:=h3 j r hj;exact ⟨lb,lo,q1,hg _ q2,q3⟩⟩
theorem Yq.up {w:World} {v:Value} {G G':Nat->Prop} {L:zE} (h:Yq w v G L) (hg:∀ k,G k->G' k):Yq w v G' L:=⟨h.at_.up13 hg,h.nil⟩
def yO (w:World) (v:Value) (G:Nat->Prop) (P:List zE):Prop:=
 ∃ la cap,v=.slice la P.length cap∧P.length<=maxLen∧∀ (j:Nat) L,P[j]? = some L->∃ lb lo sv,la=some ⟨lb,lo,none⟩∧G lb∧w.cell? ⟨lb,lo+j,none⟩=some sv∧Yq w sv G L
theorem yO.chg {S:Nat->Prop} {w w':World} {v:Value} {G:Nat->Prop} {P:List zE} (h:yO w v G P) (hc:Chg S w w') (hs:∀ k,G k->¬ S k):yO w' v G P:=by
 obtain ⟨la,cap,h1,h2,h3⟩:=h;exact ⟨la,cap,h1,h2,fun j L hj=>by obtain ⟨lb,lo,sv,q1,q2,q3,q4⟩:=h3 j L hj;exact ⟨lb,lo,sv,q1,q2,zj hc (hs lb q2) q3,q4.chg hc hs⟩⟩
theorem yO.up {w:World} {v:Value} {G G':Nat->Prop} {P:List zE} (h:yO w v G P) (hg:∀ k,G k->G' k):yO w v G' P:=by
 obtain ⟨la,cap,h1,h2,h3⟩:=h;exact ⟨la,cap,h1,h2,fun j L hj=>by obtain ⟨lb,lo,sv,q1,q2,q3,q4⟩:=h3 j L hj;exact ⟨lb,lo,sv,q1,hg _ q2,q3,q4.up hg⟩⟩
def xg (w:World) (v:Value) (G:Nat->Prop) (I:List zP):Prop:=
 ∃ la cap,v=.slice la I.length cap∧I.length<=maxLen∧∀ (j:Nat) x,I[j]? = some x->∃ lb lo pv,la=some ⟨lb,lo,none⟩∧G lb∧w.cell? ⟨lb,lo+j*2,none⟩=some (.int .i64 x.cert)∧w.cell? ⟨lb,lo+j*2+1,none⟩=some pv∧yO w pv G x.paths
structure Zz (w:World) (iv sv:Value) (G:Nat->Prop) (p:zL):Prop where
 items:xg w iv G p.items
 steps:Yq w sv G p.steps
theorem xg.chg {S:Nat->Prop} {w w':World} {v:Value} {G:Nat->Prop} {I:List zP} (h:xg w v G I) (hc:Chg S w w') (hs:∀ k,G k->¬ S k):xg w' v G I:=by
 obtain ⟨la,cap,h1,h2,h3⟩:=h;exact ⟨la,cap,h1,h2,fun j x hj=>by obtain ⟨lb,lo,pv,q1,q2,q3,q4,q5⟩:=h3 j x hj;exact ⟨lb,lo,pv,q1,q2,zj hc (hs lb q2) q3,zj hc (hs lb q2) q4,q5.chg hc hs⟩⟩
theorem xg.up {w:World} {v:Value} {G G':Nat->Prop} {I:List zP} (h:xg w v G I) (hg:∀ k,G k->G' k):xg w v G' I:=by
 obtain ⟨la,cap,h1,h2,h3⟩:=h;exact ⟨la,cap,h1,h2,fun j x hj=>by obtain ⟨lb,lo,pv,q1,q2,q3,q4,q5⟩:=h3 j x hj;exact ⟨lb,lo,pv,q1,hg _ q2,q3,q4,q5.up hg⟩⟩
theorem Zz.chg {S:Nat->Prop} {w w':World} {iv sv:Value} {G:Nat->Prop} {p:zL} (h:Zz w iv sv G p) (hc:Chg S w w') (hs:∀ k,G k->¬ S k):Zz w' iv sv G p:=⟨h.items.chg hc hs,h.steps.chg hc hs⟩
theorem Zz.up {w:World} {iv sv:Value} {G G':Nat->Prop} {p:zL} (h:Zz w iv sv G p) (hg:∀ k,G k->G' k):Zz w iv sv G' p:=⟨h.items.up hg,h.steps.up hg⟩
theorem xg.shape {w:World} {v:Value} {G:Nat->Prop} {I:List zP} (h:xg w v G I):∃ a c,v=.slice a I.length c:=by
 obtain ⟨la,cap,h1,_⟩:=h;exact ⟨la,cap,h1⟩
theorem yO.shape {w:World} {v:Value} {G:Nat->Prop} {P:List zE} (h:yO w v G P):∃ a c,v=.slice a P.length c:=by
 obtain ⟨la,cap,h1,_⟩:=h;exact ⟨la,cap,h1⟩
theorem yO.len {w:World} {v:Value} {G:Nat->Prop} {P:List zE} (h:yO w v G P):P.length<=9223372036854775807:=by
 obtain ⟨_,_,_,h1,_⟩:=h;unfold maxLen at h1;omega
theorem Yq.shape {w:World} {v:Value} {G:Nat->Prop} {L:zE} (h:Yq w v G L):∃ a c,v=.slice a L.length c:=by
 obtain ⟨la,cap,h1,_⟩:=h.at_;exact ⟨la,cap,h1⟩
open Go.ChangeShapes Go.WideShapes Go.ChangeAt
def zcE (x:Int):Prop:=-9223372036854775808<=x∧x<=9223372036854775807
def xe (l:zE):Prop:=∀ s∈l,zcE s.1∧zcE s.2
structure xz (p:zL):Prop where
 items:∀ x∈p.items,zcE x.cert∧∀ l∈x.paths,xe l
 steps:xe p.steps
theorem Tryz.cellsItem:Tryz.prog.cellsOf 98=2:=by kernel_rfl
theorem Tryz.cellsSteps:Tryz.prog.cellsOf 81=1:=by kernel_rfl
theorem Tryz.cellsPaths:Tryz.prog.cellsOf 96=1:=by kernel_rfl
theorem Tryz.cellsItems:Tryz.prog.cellsOf 80=1:=by kernel_rfl
theorem Tryz.cellsProof:Tryz.prog.cellsOf 83=2:=by kernel_rfl
section
variable {W:World} {H:Type} {enc:TypeId × Value->H}
instance:Inhabited zP:=⟨⟨0,[]⟩⟩
end
theorem zeA {w v:Wd}:∀ (f i:Nat),zco w v i f=-1->∀ a,i<=a->a < i+f->¬ (w.drop (2*a)).take v.length=v
 | 0,i,_,a,h1,h2=>by omega
 | f+1,i,h,a,h1,h2=>by
  unfold zco at h;split at h
  ·omega
  ·rename_i hn
   by_cases e:a=i
   ·subst e;exact hn
   ·exact zeA f (i+1) h a (by omega) (by omega)
theorem zkW {w v:Wd} (h:xH w v 0 < 0) {a:Nat}:YN v w a=false:=by
 rw [zrm];intro hs;obtain ⟨h1,h2,h3⟩:=(YB _ _ _).1 hs;have hm:zz v=v.length / 2:=rfl
 have h0:xH w v 0=-1:=by
  rcases zeB w v (zz w+1 - zz v - 0) 0 with q | q
  ·exact q
  ·unfold xH at h;omega
 exact zeA _ _ h0 a (Nat.zero_le _) (by omega) h3
def zbE (R:List zF) (n:Nat) (L:List ByteArray):Bool:=(R.drop n).any fun r=>Zx (Zw r) && L.any fun w=>decide (0<=xH w.data.toList r.1.data.toList 0)
structure zdx (R:List zF) (b:Int) (s:ByteArray) (L:List ByteArray):Prop where
 err:zH R s b=0
 mem:∀ t:ByteArray,t∈L↔Reach (R.map Zw) s.data.toList t.data.toList
theorem zmT (R:List zF) (n:Nat):(R.take n).map Zw=(R.map Zw).take n:=List.map_take ..
theorem zh6 {R:List zF} {n:Nat} {s:ByteArray} {L:List ByteArray} (hm:∀ t:ByteArray,t∈L↔Reach ((R.take n).map Zw) s.data.toList t.data.toList) (h:zbE R n L=false) {v:Wd} (hv:Reach (R.map Zw) s.data.toList v):Reach ((R.take n).map Zw) s.data.toList v:=by
 induction hv with
 | refl=>exact .refl
 | @tail u v _ st ih=>
  obtain ⟨r,hr,hc,a,ha,hs,e⟩:=zag.1 st;refine ih.tail (zag.2 ⟨r,?_,hc,a,ha,hs,e⟩);obtain ⟨q,hq,rfl⟩:=List.mem_map.1 hr;rw [<- zrd n R] at hq;rcases zrc.1 hq with h1 | h1
  ·exact List.mem_map_of_mem h1
  ·exfalso
   have hu:bar u∈L:=(hm _).2 (by rw [yB];exact ih);have h2:=List.any_eq_false.1 h q h1;rw [hc,Bool.true_and,zrn] at h2;have h3:=List.any_eq_false.1 h2 _ hu;rw [yB] at h3;have h4:=zkW (w:=u) (v:=q.1.data.toList) (a:=a) (by simpa using h3);rw [show q.1.data.toList=(Zw q).1 from rfl,hs] at h4;cases h4
theorem zfk {R:List zF} {b:Int} {s:ByteArray} (h:zH R s b=0):∃ r,zdz R s b=some r∧1<=b∧∀ v,v∈zv r↔Reach (R.map Zw) s.data.toList v:=by
 obtain ⟨h1,r,hr⟩:=Zb h;obtain ⟨_,hb,_,_⟩:=ZE h1;exact ⟨r,hr,hb,(XG (by omega) hr).2.2⟩
theorem zdx.keep {R:List zF} {n:Nat} {b:Int} {s:ByteArray} {L:List ByteArray} (h:zdx (R.take n) b s L) (hR:R.length<=400) (hs:zbE R n L=false):zdx R b s L:=by
 have key:∀ v,Reach (R.map Zw) s.data.toList v↔Reach ((R.take n).map Zw) s.data.toList v:=fun v=>
  ⟨fun q=>zh6 h.mem hs q,fun q=>q.mono (fun x hx=>by rw [zmT] at hx;exact List.mem_of_mem_take hx)⟩
 refine ⟨?_,fun t=>by rw [h.mem,key]⟩;obtain ⟨h1,r,hr⟩:=Zb h.err;obtain ⟨hm,hb,hb2,_⟩:=ZE h1;obtain ⟨q1,q2,q3⟩:=XG (by omega) hr;obtain ⟨r',hr'⟩:=zp6 (R:=R.map Zw) (w:=s.data.toList) (b:=b.toNat) (by omega) (zv r) (by rw [Zm];exact q2) (fun v hv=>(q3 v).2 ((key v).1 hv))
 have ha:yI (Zp s.data.toList) b R.length=0:=by
  unfold yI;rw [if_pos hm,if_neg (by omega),if_neg (by omega)]
 unfold zH;rw [if_pos ha,if_neg (by unfold zdz;rw [hr'];simp)]
theorem zcM {R:List zF} {b:Int} {s:ByteArray} (h:zH R s b=0):zdx R b s (Xz R s b):=by
 obtain ⟨r,hr,hb,hq⟩:=zfk h;refine ⟨h,fun t=>?_⟩;unfold Xz zeT;rw [if_pos h,hr,<- hq];show t∈(zv r).map bar↔_;rw [List.mem_map];constructor
 ·rintro ⟨u,hu,rfl⟩;rw [yB];exact hu
 ·exact fun q=>⟨_,q,rfl⟩
theorem zgN {R:List zF} {b:Int} {s t:ByteArray} (h:zH R s b=0):Xk R s t b=true↔Reach (R.map Zw) s.data.toList t.data.toList:=by
 obtain ⟨r,hr,hb,hq⟩:=zfk h;unfold Xk zeT;rw [if_pos h,hr,<- hq,zra];rfl
theorem zdx.tell {R:List zF} {b:Int} {s t:ByteArray} {L:List ByteArray} (h:zdx R b s L):decide (t∈L)=Xk R s t b:=by
 rw [Bool.eq_iff_iff,zra,zgN h.err,h.mem]
def yr (c:zq):List zF:=c.fr.map fun w=>(w,c.sp)
def xM (R:List zF) (b:Int) (t:ByteArray):List ByteArray->Bool × Int
 | []=>(true,0)
 | w :: l=>if zH R w b=0 then (if Xk R w t b=true then xM R b t l else (false,0)) else (false,zH R w b)
def xJ (R:List zF) (b:Int) (c:zq):Bool × Int:=xM R b (ZW c.sg) c.fr
theorem zjE {R:List zF} {b:Int} {t:ByteArray}:∀ {l:List ByteArray},xM R b t l=(true,0)↔∀ w∈l,zH R w b=0∧Xk R w t b=true
 | []=>by simp [xM]
 | w :: l=>by
  unfold xM;by_cases h1:zH R w b=0
  ·rw [if_pos h1]
   by_cases h2:Xk R w t b=true
   ·rw [if_pos h2,zjE (l:=l)]
    simp [h1,h2]
   ·rw [if_neg h2]
    simp [h1,h2]
  ·rw [if_neg h1]
   simp [h1]
structure ASt where
 order:List Nat
 rules:List zF
def zbw (C:List zq) (b:Int) (s:ASt) (i:Nat):Except Int ASt:=
 if i∈s.order then .ok s else
 match C[i]? with
 | none=>.ok s
 | some c=>if (xJ s.rules b c).2=0 then (if (xJ s.rules b c).1=true then .ok ⟨s.order++[i],s.rules++yr c⟩ else .ok s) else .error (xJ s.rules b c).2
def YJ (C:List zq) (b:Int) (s:ASt):Nat->Except Int ASt
 | 0=>.ok s
 | n+1=>match YJ C b s n with
  | .error e=>.error e
  | .ok s'=>zbw C b s' n
def zia (C:List zq) (b:Int):Nat->ASt->Except Int ASt
 | 0,s=>.ok s
 | f+1,s=>match YJ C b s C.length with
  | .error e=>.error e
  | .ok s'=>if s'.order.length=s.order.length then .ok s' else zia C b f s'
def ZB (C:List zq):Nat:=(C.map fun c=>c.fr.length).sum
def zeU (n:Nat) (C:List zq) (b:Int):Int:=if C.all ZD=true then (if 400 < n+ZB C then 3 else if b < 1∨5000 < b then 1 else 0) else 2
def Zc (R:List zF) (C:List zq) (b:Int):Except Int ASt:=
 if zeU R.length C b=0 then zia C b (C.length+1) ⟨[],R⟩ else .error (zeU R.length C b)
def zY (C:List zq) (l:List Nat):List zF:=l.flatMap fun i=>match C[i]? with
 | some c=>yr c
 | none=>[]
theorem XF {C:List zq} {l:List Nat} {i:Nat} {c:zq} (h:C[i]? = some c):zY C (l++[i])=zY C l++yr c:=by
 unfold zY;rw [List.flatMap_append,List.flatMap_cons,List.flatMap_nil,List.append_nil];simp only [h]
structure zab (R:List zF) (C:List zq) (b:Int) (s:ASt):Prop where
 nd:s.order.Nodup
 lt:∀ i∈s.order,i < C.length
 rules:s.rules=R++zY C s.order
 just:∀ (k:Nat) i c,s.order[k]? = some i->C[i]? = some c->xJ (R++zY C (s.order.take k)) b c=(true,0)
theorem zab.start (R:List zF) (C:List zq) (b:Int):zab R C b ⟨[],R⟩:=⟨List.nodup_nil,(fun i h=>by cases h),(by simp [zY]),(fun k i c h=>by simp at h)⟩
theorem zab.step {R:List zF} {C:List zq} {b:Int} {s s':ASt} (h:zab R C b s) {i:Nat} (hs:zbw C b s i=.ok s'):zab R C b s'∧s.order <+: s'.order∧(s'=s->i ∉ s.order->∀ c,C[i]? = some c->xJ s.rules b c=(false,0)):=by
 unfold zbw at hs;by_cases hi:i∈s.order
 ·rw [if_pos hi] at hs;cases hs
  exact ⟨h,List.prefix_refl _,fun _ q=>absurd hi q⟩
 ·rw [if_neg hi] at hs
  cases hc:C[i]? with
  | none=>rw [hc] at hs;cases hs;exact ⟨h,List.prefix_refl _,fun _ _ c q=>by cases q⟩
  | some c=>
   rw [hc] at hs;simp only at hs;by_cases h2:(xJ s.rules b c).2=0
   ·rw [if_pos h2] at hs
    by_cases h1:(xJ s.rules b c).1=true
    ·rw [if_pos h1] at hs
     cases hs;refine ⟨⟨?_,?_,?_,?_⟩,List.prefix_append _ _,fun e=>?_⟩
     ·show (s.order++[i]).Nodup
      rw [List.nodup_append];exact ⟨h.nd,by simp,fun a ha b hb=>by rw [List.mem_singleton] at hb;subst hb;exact fun e=>hi (e ▸ ha)⟩
     ·intro j hj
      rcases zrc.1 hj with q | q
      ·exact h.lt j q
      ·rw [List.mem_singleton] at q;subst q;exact (zq1.1 hc).1
     ·show s.rules++yr c=R++zY C (s.order++[i])
      rw [XF hc,h.rules,List.append_assoc]
     ·intro k j d hj hd
      have hj':(s.order++[i])[k]? = some j:=hj;show xJ (R++zY C ((s.order++[i]).take k)) b d=_;rcases Nat.lt_or_ge k s.order.length with q | q
      ·rw [List.getElem?_append_left q] at hj'
       rw [List.take_append_of_le_length (by omega)];exact h.just k j d hj' hd
      ·rw [List.getElem?_append_right q] at hj'
       have hk:k - s.order.length < 1:=(zq1.1 hj').1;have hk2:k=s.order.length:=by omega
       subst hk2;simp at hj';subst hj';rw [hc] at hd;cases hd;rw [List.take_left' rfl,<- h.rules];exact Prod.ext h1 h2
     ·have:=congrArg (fun s=>s.order.length) e
      simp at this
    ·rw [if_neg h1] at hs
     cases hs;exact ⟨h,List.prefix_refl _,fun _ _ d q=>by cases q;exact Prod.ext (by simpa using h1) h2⟩
   ·rw [if_neg h2] at hs;cases hs
theorem zab.pass {R:List zF} {C:List zq} {b:Int} {s:ASt} (h:zab R C b s):∀ (n:Nat) {s':ASt},YJ C b s n=.ok s'->zab R C b s'∧s.order <+: s'.order∧(s'.order.length=s.order.length->s'=s∧∀ i,i < n->i ∉ s.order->∀ c,C[i]? = some c->xJ s.rules b c=(false,0))
 | 0,s',hs=>by cases hs;exact ⟨h,List.prefix_refl _,fun _=>⟨rfl,fun i hi=>by omega⟩⟩
 | n+1,s',hs=>by
  unfold YJ at hs;cases hp:YJ C b s n with
  | error e=>rw [hp] at hs;cases hs
  | ok u=>
   rw [hp] at hs;obtain ⟨a1,a2,a3⟩:=h.pass n hp;obtain ⟨b1,b2,b3⟩:=a1.step hs;refine ⟨b1,a2.trans b2,fun hl=>?_⟩;have e1:=a2.length_le;have e2:=b2.length_le;obtain ⟨rfl,q⟩:=a3 (by omega)
   have e3:s'=u:=by
    have ho:s'.order=u.order:=(b2.eq_of_length (by omega)).symm;have hr:s'.rules=u.rules:=by rw [b1.rules,a1.rules,ho]
    cases s';cases u;simp at ho hr;simp [ho,hr]
   refine ⟨e3,fun i hi hn c hc=>?_⟩;by_cases hin:i=n
   ·subst hin;exact b3 e3 hn c hc
   ·exact q i (by omega) hn c hc
structure zqP (R:List zF) (C:List zq) (b:Int) (s:ASt):Prop where
 inv:zab R C b s
 full:∀ i c,C[i]? = some c->i ∉ s.order->xJ s.rules b c=(false,0)
theorem yS {l:List Nat} (h:l.Nodup) {n:Nat} (hl:∀ i∈l,i < n):l.length<=n:=by
 have:=zbn (l:=l) (m:=List.range n) h (fun x hx=>List.mem_range.2 (hl x hx));rwa [List.length_range] at this
theorem zlJ {R:List zF} {C:List zq} {b:Int}:∀ (f:Nat) {s s':ASt},zab R C b s->C.length < f+s.order.length->zia C b f s=.ok s'->zqP R C b s'
 | 0,s,s',h,hf,_=>by have:=yS h.nd h.lt;omega
 | f+1,s,s',h,hf,hs=>by
  unfold zia at hs;cases hp:YJ C b s C.length with
  | error e=>rw [hp] at hs;cases hs
  | ok u=>
   rw [hp] at hs;obtain ⟨a1,a2,a3⟩:=h.pass _ hp;simp only at hs;by_cases he:u.order.length=s.order.length
   ·rw [if_pos he] at hs
    cases hs;obtain ⟨rfl,q⟩:=a3 he;exact ⟨h,fun i c hc hn=>q i (zq1.1 hc).1 hn c hc⟩
   ·rw [if_neg he] at hs
    have:=a2.length_le;exact zlJ f a1 (by omega) hs
theorem YH {R:List zF} {C:List zq} {b:Int} {s:ASt} (h:Zc R C b=.ok s):zqP R C b s∧zeU R.length C b=0:=by
 unfold Zc at h;split at h
 ·exact ⟨zlJ _ (zab.start R C b) (by simp) h,by assumption⟩
 ·cases h
def up (k j:Nat):Nat:=if j < k then j else j+1
structure zqS (k:Nat) (s t:ASt):Prop where
 rules:t.rules=s.rules
 order:s.order=t.order.map (up k)
def noC:zq:=⟨0,0,⟨#[]⟩,[],0,0,0⟩
theorem zcC {R:List zF} {C:List zq} {b:Int} {s:ASt} (h:Zc R C b=.ok s):C.all ZD=true∧R.length+ZB C<=400∧1<=b∧b<=5000:=by
 have hr:=(YH h).2;unfold zeU at hr;split at hr
 ·split at hr
  ·cases hr
  ·split at hr
   ·cases hr
   ·refine ⟨by assumption,by omega,by omega,by omega⟩
 ·cases hr
theorem zlM {C:List zq}:∀ {l:List Nat},l.Nodup->(∀ i∈l,i < C.length)->(zY C l).length<=ZB C:=by
 have key:∀ (n:Nat) {l:List Nat} {C:List zq},C.length=n->l.Nodup->(∀ i∈l,i < C.length)->(zY C l).length<=ZB C:=by
  intro n;induction n with
  | zero=>
   intro l C hn hl hi;cases l with
   | nil=>exact Nat.zero_le _
   | cons x l=>have:=hi x List.mem_cons_self;omega
  | succ n ih=>
   intro l C hn hl hi;obtain ⟨D,c,rfl⟩:∃ D c,C=D++[c]:=⟨C.dropLast,C.getLast (by intro e;subst e;simp at hn),(List.dropLast_concat_getLast _).symm⟩;have hD:D.length=n:=by simpa using hn
   have hneed:ZB (D++[c])=ZB D+c.fr.length:=by unfold ZB;simp
   have h1:∀ m:List Nat,(∀ i∈m,i < D.length)->zY (D++[c]) m=zY D m:=by
    intro m hm;unfold zY;induction m with
    | nil=>rfl
    | cons x m ihm=>
     rw [List.flatMap_cons,List.flatMap_cons,ihm (fun i hi=>hm i (List.mem_cons_of_mem _ hi)),List.getElem?_append_left (hm x List.mem_cons_self)]
   have hsum:∀ m:List Nat,m.Nodup->(zY (D++[c]) m).length=(zY (D++[c]) (m.erase n)).length+(if n∈m then c.fr.length else 0):=by
    intro m hm;induction m with
    | nil=>simp [zY]
    | cons x m ihm=>
     rw [List.nodup_cons] at hm;by_cases e:x=n
     ·subst e
      rw [List.erase_cons_head,if_pos List.mem_cons_self];unfold zY;rw [List.flatMap_cons,zq3,List.getElem?_append_right (by omega),show x - D.length=0 by omega];simp [yr];omega
     ·rw [List.erase_cons_tail (by simpa using e)]
      have:=ihm hm.2;have e2:(n∈x :: m)↔n∈m:=by simp [Ne.symm e]
      unfold zY at this ⊢;rw [List.flatMap_cons,List.flatMap_cons,zq3,zq3,this];simp only [e2];omega
   rw [hsum l hl,hneed]
   have h2:∀ i∈l.erase n,i < D.length:=fun i q=>by
    have q1:=hi i (List.mem_of_mem_erase q)
    have q2:i≠n:=fun e=>by
     subst e;exact (List.Nodup.not_mem_erase hl) q
    rw [zq3,List.length_singleton] at q1;omega
   rw [h1 _ h2];have:=ih (C:=D) hD (hl.erase n) h2;split <;> omega
 exact fun {l} h1 h2=>key _ rfl h1 h2
end Go.Proofs.YthdfplafihmejaaGreat
