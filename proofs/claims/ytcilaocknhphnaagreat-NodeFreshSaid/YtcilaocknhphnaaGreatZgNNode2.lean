/-
  Package node: Boot, whatever was booted before.
-/
import Derived.Test.YtcilaocknhphnaaGreatZgDag2
import Derived.Test.YtcilaocknhphnaaGreatZgJDev3
import Derived.Test.YtcilaocknhphnaaGreatZgNFmt
import Derived.Test.YtcilaocknhphnaaGreatZgNDec
namespace Go.Proofs.YtcilaocknhphnaaGreat
open Go.RowKit Go.Maps
structure Nd where
  sb:Nat
  tb:Nat
  tg:Nat
  cb:Nat
  jb:Nat
  b:Nat
  i:Nat
  t:Int
  key:Nat
  boot:Int
  oa:Option Addr
  oc:Nat
  objs:List Yr
  lv:Value
  s:zB
  SB:Nat->Prop
  G:Nat->Prop
def zb2 (x:Nd):Array Value:=#[.pointer (some ⟨x.sb,0,none⟩),.pointer (some ⟨x.tb,0,none⟩),.pointer (some ⟨x.cb,0,none⟩),.int .i64 x.i,.int .i64 x.t,.int .u16 x.key,.bool false,.pointer (some ⟨x.jb,0,none⟩),.pointer (some ⟨x.b,0,none⟩),.int .i64 x.boot,.slice x.oa x.objs.length x.oc,x.lv,.slice none 0 0,.slice none 0 0]
structure ziQ (w:World) (n base:Nat) (x:Nd):Prop where
  obj:w.heap[n]? = some (.cells (zb2 x) 77 (0,0))
  store:Zz w x.sb x.SB x.s
  tab:zjV w x.tb x.tg
  objs:ZC w (.slice x.oa x.objs.length x.oc) x.G x.objs
  low:base<=n∧base<=x.tb∧base<=x.tg∧(∀ k,x.SB k->base<=k)∧∀ k,x.G k->base<=k∧k < w.heap.size
  ne:x.tb≠n∧x.tg≠n∧¬ x.SB n∧¬ x.G n
  sep:¬ x.SB x.tb∧¬ x.SB x.tg∧∀ k,x.SB k->¬ x.G k
theorem ziQ.chg {S:Nat->Prop} {w w':World} {n base:Nat} {x:Nd} (h:ziQ w n base x) (hc:Chg S w w') (hs:∀ k,base<=k->¬ S k):ziQ w' n base x:=
 ⟨hc.obj (hs n h.low.1) h.obj,h.store.chg hc (fun k e=>hs k (h.low.2.2.2.1 k e)),h.tab.chg hc (hs _ h.low.2.1) (hs _ h.low.2.2.1),h.objs.chg hc (fun k e=>hs k (h.low.2.2.2.2 k e).1),⟨h.low.1,h.low.2.1,h.low.2.2.1,h.low.2.2.2.1,fun k e=>⟨(h.low.2.2.2.2 k e).1,zlG (h.low.2.2.2.2 k e).2 hc.size⟩⟩,h.ne,h.sep⟩
def A19 (w0:Nat) (i key:Nat) (t boot:Int) (n rb:Nat):Nat->Value->World->Prop
  | 0,v,_=>v=.int .i64 (i:Int)
  | 1,v,_=>v=.int .u16 ((8193+i:Nat):Int)
  | 2,v,_=>v=.pointer (some ⟨n,0,none⟩)
  | 3,v,_=>v=.pointer (some ⟨n,0,none⟩)
  | 4,v,_=>v=.pointer (some ⟨n,3,none⟩)
  | 5,v,_=>v=.pointer (some ⟨n,5,none⟩)
  | 6,v,_=>v=.int .u16 (key:Int)
  | 7,v,W=>∃ g,v=.slice (some ⟨g,0,none⟩) 1 1∧W.heap[g]? = some (.cells #[.int .u16 (key:Int)] 58 (0,0))
  | 8,v,_=>v=.string (ZL key)
  | 9,v,_=>v=.int .i64 (i:Int)
  | 10,v,_=>v=.string (yZ i)
  | 11,v,W=>∃ g,v=.slice (some ⟨g,0,none⟩) 1 1∧w0<=g∧W.heap[g]? = some (.cells #[.string (yZ i)] 29 (0,0))
  | 12,v,_=>v=.int .i64 t
  | 13,v,_=>v=.pointer (some ⟨rb,0,none⟩)
  | 14,v,_=>v=.int .i64 boot
  | 15,v,W=>∃ g,v=Zn (xN i key t boot) (.slice (some ⟨g,0,none⟩) 1 1)∧w0<=g∧W.heap[g]? = some (.cells #[.string (yZ i)] 29 (0,0))
  | 16,v,W=>∃ g,v=.pointer (some ⟨g,0,none⟩)∧w0<=g∧W.heap[g]? = some (.cells #[.int .i64 0,.int .u16 0,.string ⟨#[]⟩,.slice none 0 0,.int .i64 0,.int .i64 0,.int .i64 0] 103 (0,0))
  | _,_,_=>True
theorem A19.stab {w0 i key:Nat} {t boot:Int} {n rb:Nat} (j:Nat) (v:Value) (W W':World) (h:A19 w0 i key t boot n rb j v W) (hc:Chg (fun _=>False) W W'):A19 w0 i key t boot n rb j v W':=by
 unfold A19 at *
 split at h <;> first
  | exact h
  | (obtain ⟨g,e,q⟩:=h;exact ⟨g,e,hc.obj (fun e=>e) q⟩)
  | (obtain ⟨g,e,q1,q2⟩:=h;exact ⟨g,e,q1,hc.obj (fun e=>e) q2⟩)
theorem zcB {w:World} {g:Nat} {s:ByteArray} (h:w.heap[g]? = some (.cells #[.string s] 29 (0,0))) (hs:s.size<=maxLen):yR w (.slice (some ⟨g,0,none⟩) 1 1) (fun k=>k=g) [s]:=
 ⟨⟨_,1,rfl,by simp [maxLen],fun j x hj=>by
  obtain rfl:j=0:=by
   rcases j with _ | j
   ·rfl
   ·simp at hj
  simp at hj;subst hj;exact ⟨g,0,rfl,rfl,zg (o:=0) h rfl,hs⟩⟩,fun n c e=>by cases e⟩
theorem zgA {m:Nat} {objs:List Yr} (h:xF ⟨(m:Int),objs⟩=true) (hm:m < 40):xF ⟨((m+1:Nat):Int),objs⟩=true:=by
 rw [yE] at h ⊢;exact ⟨by show (0:Int)<=((m+1:Nat):Int);omega,by show ((m+1:Nat):Int)<=40;omega,h.2.2⟩
theorem zfE {L:List (Nat × ByteArray)} {x:Nat × ByteArray} (h:L.length < 2000):x∈yG L x:=by
 unfold yG;split
 ·assumption
 ·rw [if_neg (by omega)];simp
def zjP (w:World) (B:DB) (num:Int) (half:Nat) (i:Nat) (t:Int) (b:Nat) (BB:Nat->Prop) (L:List (Nat × ByteArray)) (M:List yB) (m:Nat) (objs:List Yr) (e:Ending) (w':World):Prop:=
  ∃ n x d',e=.returned (.tuple #[.pointer (some ⟨n,0,none⟩),.int .i64 0])∧ziQ w' n w.heap.size x ∧
    x.b=b∧x.i=i∧x.t=t∧x.key=8292+50*i+(m+1)∧x.boot=((m+1:Nat):Int)∧x.objs=objs∧x.lv=.slice none 0 0∧x.s=zdR (xN i (8292+50*i+(m+1)) t ((m+1:Nat):Int)) ∧
    zY w' B d'∧zds 65 d' ⟨num+1,1 - half,⟨(YI ⟨((m+1:Nat):Int),objs⟩).toArray⟩⟩ ∧
    (∃ BB',ZD w' b BB' (yG L (8193+i,XD (xN i (8292+50*i+(m+1)) t ((m+1:Nat):Int)))) M∧(∀ k,BB' k->BB k∨w.heap.size<=k)∧¬ BB' n∧(∀ k,x.SB k->¬ BB' k)∧¬ BB' x.tb∧¬ BB' x.tg∧∀ k,x.G k->¬ BB' k) ∧
    Chg (fun k=>B.S k∨BB k) w w'
set_option maxHeartbeats 4000000 in
set_option maxRecDepth 100000 in
theorem zhs (w:World) (B:DB) (d:Dev) (m:Nat) (objs:List Yr) (num:Int) (half i:Nat) (hi:i < 3) (t:Int) (ht:0<=t∧t<=2305843009213693952) (b:Nat) (BB:Nat->Prop) (L:List (Nat × ByteArray)) (M:List yB) (hb:ZD w b BB L M) (hBB:∀ k,BB k->¬ B.S k) (hd:zY w B d) (hn:B.n=65) (ca:zds 65 d ⟨num,half,⟨(YI ⟨(m:Int),objs⟩).toArray⟩⟩) (ziX:num < 4611686018427387904) (Xm:half<=1) (hr:xF ⟨(m:Int),objs⟩=true) (hm:m < 40) (hs0:(YI ⟨(m:Int),objs⟩).length<=100000) (hs:(YI ⟨((m+1:Nat):Int),objs⟩).length<=1024) (hL:L.length < 1999):
  Calls Tryz.prog 15 #[.int .i64 (i:Int),.int .i64 t,B.ptr,.pointer (some ⟨b,0,none⟩)] w (zjP w B num half i t b BB L M m objs):=by
 obtain ⟨BB0,hB0⟩:∃ BB0:Nat->Prop,BB0=fun k=>BB k∧k < w.heap.size:=⟨_,rfl⟩;have HBK:=zf (show ZD w b BB0 L M from hb.to (fun k hk e=>by rw [hB0];exact ⟨e,hk⟩));have HB0:=zf (show ∀ k,BB0 k->BB k from fun k e=>by rw [hB0] at e;exact e.1);have HBL:=zf (show ∀ k,BB0 k->k < w.heap.size from fun k e=>by rw [hB0] at e;exact e.2);have HBS:=zf (fun k (e:BB0 k)=>hBB k (HB0.out k e));have HD:=zf hd;have HB:=zf (fun k (e:B.S k)=>hd.lt e);have HN:=zf hn;have CA:=zf ca;have HR:=zf hr;have HS:=zf hs;have HS0:=zf hs0;have OP:=zf (zbZ w B _ hd);have t1:decide ((i:Int) < 0)=false:=zly (by omega);have t2:decide (3<=(i:Int))=false:=zly (by omega);have t3:decide (t < 0)=false:=zly (by omega);have t4:decide (2305843009213693952 < t)=false:=zly (by omega);have t5:decide (40<=(m:Int))=false:=zly (by omega);obtain ⟨M1,hM1⟩:∃ M1,M1=m+1:=⟨_,rfl⟩;have HM1:=zf hM1;have e5:IntKind.i64.wrap ((m:Int)+1)=(M1:Int):=by rw [IntKind.wrap_i64];omega
 have BC:=zf (zeU (i:=i) (key:=8292+50*i+M1) (t:=t) (boot:=(M1:Int)) hi (by omega) ht ⟨by omega,by omega⟩);have hM40:M1<=40:=by omega
 clear hd hn ca hr hs hs0 hb hBB hB0 hM1;unfold DB.ptr at *;go_enter Tryz.func15,Tryz.ntmps15;go_wp2_with fail;refine (OP.out).mono ?_;rintro e w1 (⟨hbad,_⟩ | ⟨_,jb,rfl,j1,k1,hb1,hb2⟩)
 ·exact absurd hbad CA.out.rep.fine
 rw [zgy CA.out.rep] at j1;have J1:=zf j1;have D1:=zf (HD.out.chg k1 (fun _ _ e=>e));have hbS:¬ B.S jb:=fun e=>by have:=HB.out jb e;omega
 have K1:=zf k1;have RC:=zf (zcG w1 B jb _ j1);have ss:(⟨(YI ⟨(m:Int),objs⟩).toArray⟩:ByteArray).size=(YI ⟨(m:Int),objs⟩).length:=YG _;have DC:=zf (zbi w1 ⟨(m:Int),objs⟩ ⟨(YI ⟨(m:Int),objs⟩).toArray⟩ (by simp) HR.out (by rw [ss];have:=HS0.out;omega));clear k1 OP;unfold zc0 at *;clear j1;simp only at RC DC;go_wp2_with fail;refine (RC.out).mono ?_;rintro e w1' ⟨rfl,rfl⟩;go_wp2_with fail;refine (DC.out).mono ?_;rintro e w2 ⟨oa,oc,rfl,ho,hob,k2⟩;have K2:=zf (K1.out.trans k2);have ka:=zi (fun _=>False) w2 (.cells #[.int .i64 (M1:Int),.slice oa objs.length oc] 40);have OB:=zh w2 (.cells #[.int .i64 (M1:Int),.slice oa objs.length oc] 40);have sa:w2.heap.size < (w2.alloc (.cells #[.int .i64 (M1:Int),.slice oa objs.length oc] 40)).heap.size:=by rw [zlH];omega
 have c0:=zg (o:=0) OB rfl;have c1:=zg (o:=1) OB rfl;have hw2:w.heap.size<=w2.heap.size:=K2.out.size;have hw12:w1.heap.size<=w2.heap.size:=k2.size;have hb3:jb < w2.heap.size:=by omega
 have K3:=zf (K2.out.trans ka);have HO3:=zf (ho.chg ka (fun _ _ e=>e));have D3:=zf ((D1.out.chg k2 (fun _ _ e=>e)).chg ka (fun _ _ e=>e));have J3:=zf ((J1.out.chg k2 (fun e=>e)).chg ka (fun e=>e));clear ka k2 ho DC RC J1 D1 K1;go_wp2_with fail;generalize hw3:w2.alloc (.cells #[.int .i64 (M1:Int),.slice oa objs.length oc] 40)=w3 at *;clear hw3;have HR1:=zf (show xF ⟨(M1:Int),objs⟩=true by rw [HM1.out];exact zgA HR.out hm);have ENC:=zf (zbh w3 ⟨(M1:Int),objs⟩ oa oc (fun k=>w1.heap.size<=k∧k < w2.heap.size) HO3.out (fun o ho=>by have:=(Yv ((yE.1 HR.out).2.2.2 o ho)).2;omega) (fun k hk=>by omega));refine (ENC.out).mono ?_;rintro e w4 ⟨(⟨hr1,rfl⟩ | ⟨hr1,rfl⟩),k4⟩
 rotate_left
 ·rw [HR1.out] at hr1;cases hr1
 obtain ⟨es,hes⟩:∃ es,es=YI ⟨(M1:Int),objs⟩:=⟨_,rfl⟩;have ES:=zf hes;rw [<- hes];have HS1:=zf (show es.length<=1024 by rw [hes,HM1.out];exact HS.out);clear hes;have c04:=zj k4 (fun e=>e) c0;have c14:=zj k4 (fun e=>e) c1;have OB4:=zf (k4.obj (fun e=>e) OB);have HO4:=zf (HO3.out.chg k4 (fun _ _ e=>e));have D4:=zf (D3.out.chg k4 (fun _ _ e=>e));have J4:=zf (J3.out.chg k4 (fun e=>e));have K4:=zf (K3.out.trans k4);have se:(⟨es.toArray⟩:ByteArray).size=es.length:=YG _;have CM:=zbB w4 B jb _ _ ⟨es.toArray⟩ D4.out J4.out hbS Xm (by have:=CA.out.n0;exact this) (by have:=CA.out.n1;show num<=_;omega) (by rw [se];have:=HS1.out;unfold maxLen;omega);obtain ⟨d',ed⟩:=zdc CA.out ⟨es.toArray⟩ (by rw [se];exact HS1.out) ziX;have CC:=CA.out.commit ⟨es.toArray⟩;rw [ed] at CM CC;have CC:=zf CC;have CM:=zf CM;have hz4:w3.heap.size<=w4.heap.size:=k4.size;clear k4 ENC OB c0 c1 K3 D3 J3 HO3;unfold zc0 at *;simp only at CM CC;go_wp2_with fail;refine (CM.out).mono ?_;rintro e w5 ⟨rfl,d5,j5,k5⟩
 have hbx:¬ (B.S w2.heap.size∨w2.heap.size=jb):=fun e=>by
  rcases e with e | e
  ·have:=HB.out _ e;omega
  ·omega
 have OB5:=zf (k5.obj hbx OB4.out)
 have HO5:=zf (HO4.out.chg k5 (fun k hk e=>by
  rcases e with e | rfl
  ·have:=HB.out _ e;omega
  ·omega))
 have K5:=zf (Chg.next (S:=B.S) (K4.out.mono (fun _ _ e=>e.elim)) k5 (fun k hk e=>by
  rcases e with e | rfl
  ·exact e
  ·omega))
 have D5:=zf d5;have BK5:=zf (HBK.out.chg K5.out (fun k e=>HBS.out k e));have hz5:w4.heap.size<=w5.heap.size:=k5.size;have q0:=zg (o:=0) OB5.out rfl;have q1:=zg (o:=1) OB5.out rfl;clear k5 c04 c14 D4 J4 OB4 HO4 CM d5 j5 HBK K4;go_wp2_with fail;refine zC (N:=115) [.rd [4,5,6,7,8,10,11,12],.ef 0,.ef 1,.ef 2,.rd [3],.ef 9,.rd [13,14],.ef 15,.rd [16]] (fun W=>W.cell? ⟨w2.heap.size,0,none⟩=some (.int .i64 (M1:Int))∧W.cell? ⟨w2.heap.size,1,none⟩=some (.slice oa objs.length oc)) (by kernel_rfl) (by kernel_rfl) (by kernel_rfl) (by kernel_rfl) (Nat.le_of_ble_eq_true rfl) ⟨q0,q1⟩ ?_;refine zJ (A:=?A1) ?h1a ?h1b
 case h1a=>
  rintro w' ⟨y0,y1⟩ K hK;simp only [zS,zls,zlt,zlu,zlv,zlw]
  repeat still_step
  refine wpStill_nil ?_;exact hK
 have kd:=zy (fun _=>False) w5;have K6:=zf K5.out.drew;have OB6:=zf (kd.obj (fun e=>e) OB5.out);have HO6:=zf (HO5.out.chg kd (fun _ _ e=>e));have D6:=zf (D5.out.chg kd (fun _ _ e=>e));have BK6:=zf (BK5.out.chg kd (fun _ _ e=>e));have q0:=zj kd (fun e=>e) q0;have q1:=zj kd (fun e=>e) q1;have hz6:w5.heap.size<=w5.drew.heap.size:=zlS _;clear kd K5 OB5 HO5 D5 BK5;generalize w5.drew=w6 at *;refine zQ rfl ?_;go_wp2_with fail;have NS:Calls Tryz.prog 60 #[.int .i64 60] w6 _:=zkf w6 60 (by decide) (by decide);(with_reducible refine NS.mono ?_);rintro e w7 ⟨sb,SB,rfl,hst,hsb,k7⟩;clear NS;have K7:=zf k7;have ST7:=zf hst;have HSB:=zf hsb;have q0:=zj k7 (fun e=>e) q0;have q1:=zj k7 (fun e=>e) q1;clear hst hsb k7;go_wp2_with fail;refine ⟨⟨q0,q1⟩,?_⟩;refine zQ rfl ?_;go_wp2_with fail;(with_reducible refine ((zej w7)).mono ?_);rintro e w8 ⟨rfl,htab,k8,z8⟩;have z8a:w8.heap.size<=w7.heap.size+2:=by omega
 have z8b:w7.heap.size+2<=w8.heap.size:=by omega
 clear z8;have K8:=zf (K7.out.trans k8);have TB8:=zf htab;have ST8:=zf (ST7.out.chg k8 (fun _ _ e=>e));have HSB7:=zf (fun k (e:SB k)=>ST7.out.lt e);have z7:w6.heap.size<=w7.heap.size:=K7.out.size;have q0:=zj k8 (fun e=>e) q0;have q1:=zj k8 (fun e=>e) q1;clear htab k8 K7 ST7;go_wp2_with fail;refine ⟨⟨q0,q1⟩,?_⟩;refine zQ rfl ?_;go_wp2_with fail;(with_reducible refine ((zdd w8)).mono ?_);rintro e w9 ⟨rfl,k9,z9⟩;have z9a:w9.heap.size<=w8.heap.size+2:=by omega
 have z9b:w8.heap.size+2<=w9.heap.size:=by omega
 clear z9;have K9:=zf (K8.out.trans k9);have TB9:=zf (TB8.out.chg k9 (fun e=>e) (fun e=>e));have ST9:=zf (ST8.out.chg k9 (fun _ _ e=>e));have q0:=zj k9 (fun e=>e) q0;have q1:=zj k9 (fun e=>e) q1;clear k9 K8 ST8 TB8;go_wp2_with fail;refine ⟨⟨q0,q1⟩,?_⟩;refine zJ (A:=?A2) ?h2a ?h2b
 case h2a=>
  rintro w' ⟨y0,y1⟩ K hK;simp only [zS,zls,zlt,zlu,zlv,zlw]
  repeat still_step
  refine wpStill_nil ?_;exact hK
 refine zQ rfl ?_;go_wp2_with fail;have NK:=zdT w9 i M1 hi (by omega);(with_reducible refine NK.mono ?_);rintro e w9' ⟨rfl,rfl⟩;clear NK;obtain ⟨key,hkey⟩:∃ key,key=8292+50*i+M1:=⟨_,rfl⟩;have BC:=BC.out;rw [<- hkey] at BC ⊢;have BC:=zf BC;have HKEY:=zf hkey;have hk1:8192<=key:=by omega
 have hk2:key < 16384:=by omega
 clear hkey;go_wp2_with fail;refine ⟨⟨q0,q1⟩,?_⟩;refine zJ (A:=?A3) ?h3a ?h3b
 case h3a=>
  rintro w' ⟨y0,y1⟩ K hK;simp only [zS,zls,zlt,zlu,zlv,zlw]
  repeat still_step
  refine wpStill_nil ?_;exact hK
 refine zQ rfl ?_;go_wp2_with fail;have ka:=zi (fun _=>False) w9 (.cells #[.pointer (some ⟨sb,0,none⟩),.pointer (some ⟨w7.heap.size+1,0,none⟩),.pointer (some ⟨w8.heap.size+1,0,none⟩),.int .i64 (i:Int),.int .i64 t,.int .u16 (key:Int),.bool false,.pointer (some ⟨jb,0,none⟩),.pointer (some ⟨b,0,none⟩),.int .i64 (M1:Int),.slice oa objs.length oc,.slice none 0 0,.slice none 0 0,.slice none 0 0] 77);have oa9:=zh w9 (.cells #[.pointer (some ⟨sb,0,none⟩),.pointer (some ⟨w7.heap.size+1,0,none⟩),.pointer (some ⟨w8.heap.size+1,0,none⟩),.int .i64 (i:Int),.int .i64 t,.int .u16 (key:Int),.bool false,.pointer (some ⟨jb,0,none⟩),.pointer (some ⟨b,0,none⟩),.int .i64 (M1:Int),.slice oa objs.length oc,.slice none 0 0,.slice none 0 0,.slice none 0 0] 77);have sa9:=Nat.le_of_eq (zlH w9 (.cells #[.pointer (some ⟨sb,0,none⟩),.pointer (some ⟨w7.heap.size+1,0,none⟩),.pointer (some ⟨w8.heap.size+1,0,none⟩),.int .i64 (i:Int),.int .i64 t,.int .u16 (key:Int),.bool false,.pointer (some ⟨jb,0,none⟩),.pointer (some ⟨b,0,none⟩),.int .i64 (M1:Int),.slice oa objs.length oc,.slice none 0 0,.slice none 0 0,.slice none 0 0] 77)).symm;have q0:=zj ka (fun e=>e) q0;have q1:=zj ka (fun e=>e) q1;refine ⟨⟨q0,q1⟩,?_⟩;refine zJ (A:=?A4) ?h4a ?h4b
 case h4a=>
  rintro w' ⟨y0,y1⟩ K hK;simp only [zS,zls,zlt,zlu,zlv,zlw]
  repeat still_step
  refine wpStill_nil ?_;exact hK
 refine Za ?_;generalize hwn:w9.alloc (.cells #[.pointer (some ⟨sb,0,none⟩),.pointer (some ⟨w7.heap.size+1,0,none⟩),.pointer (some ⟨w8.heap.size+1,0,none⟩),.int .i64 (i:Int),.int .i64 t,.int .u16 (key:Int),.bool false,.pointer (some ⟨jb,0,none⟩),.pointer (some ⟨b,0,none⟩),.int .i64 (M1:Int),.slice oa objs.length oc,.slice none 0 0,.slice none 0 0,.slice none 0 0] 77)=wn at *;clear hwn;have ON:=zf oa9;have KN:=zf ka;have n5:=zg (o:=5) oa9 rfl;clear ka oa9 q1;go_wp2_with fail;have kd:=zy (fun _=>False) wn;have n5:=zj kd (fun e=>e) n5;have q0:=zj kd (fun e=>e) q0;have KD:=zf (KN.out.drew);have sd:wn.drew.heap.size<=wn.heap.size:=zlS _;have sd':wn.heap.size<=wn.drew.heap.size:=zlS _;have FA1:=zf (fun W:World=>(show (Instr.fieldAt 77 (.pointer (some ⟨w9.heap.size,0,none⟩)) 1).run Tryz.prog W=.ok (.pointer (some ⟨w9.heap.size,3,none⟩)) W from by go_simp));have FA2:=zf (fun W:World=>(show (Instr.fieldAt 75 (.pointer (some ⟨w9.heap.size,3,none⟩)) 2).run Tryz.prog W=.ok (.pointer (some ⟨w9.heap.size,5,none⟩)) W from by go_simp));have FR:=zf (fun W:World=>(show (Instr.fieldAt 40 (.pointer (some ⟨w2.heap.size,0,none⟩)) 0).run Tryz.prog W=.ok (.pointer (some ⟨w2.heap.size,0,none⟩)) W from by go_simp))
 have LK:=zf (fun (W:World) (q:Chg (fun _=>False) wn.drew W)=>(show (Instr.loadAt 58 (.pointer (some ⟨w9.heap.size,5,none⟩))).run Tryz.prog W=.ok (.int .u16 (key:Int)) W from by
  have c:=zj q (fun e=>e) n5;go_simp))
 have LB:=zf (fun (W:World) (q:Chg (fun _=>False) wn.drew W)=>(show (Instr.loadAt 2 (.pointer (some ⟨w2.heap.size,0,none⟩))).run Tryz.prog W=.ok (.int .i64 (M1:Int)) W from by
  have c:=zj q (fun e=>e) q0;go_simp))
 have EH:Hid (∀ args w,(callFunc 64 args).run Tryz.prog w=.ok (.enter 64 args) w):=zf (enters_of Tryz.func64 (by kernel_rfl) rfl);have EW:Hid (∀ args w,(callFunc 65 args).run Tryz.prog w=.ok (.enter 65 args) w):=zf (enters_of Tryz.func65 (by kernel_rfl) rfl);have EM:Hid (∀ args w,(callFunc 66 args).run Tryz.prog w=.ok (.enter 66 args) w):=zf (enters_of Tryz.func66 (by kernel_rfl) rfl);clear kd n5 q0;refine xR (A19 wn.drew.heap.size i key t (M1:Int) w9.heap.size w2.heap.size) 17 (by kernel_rfl) (by kernel_rfl) (by kernel_rfl) rfl (by kernel_rfl) A19.stab ?step ?fin
 case step=>
  intro L V W i0 o ho hi0 hdep hc hA hev;rcases (by omega:i0=0∨i0=1∨i0=2∨i0=3∨i0=4∨i0=5∨i0=6∨i0=7∨i0=8∨i0=9∨i0=10∨i0=11∨i0=12∨i0=13∨i0=14∨i0=15∨i0=16) with rfl | rfl | rfl | rfl | rfl | rfl | rfl | rfl | rfl | rfl | rfl | rfl | rfl | rfl | rfl | rfl | rfl
  all_goals
   simp only [zlu,zlv,zlw,Option.some.injEq] at ho;subst ho;simp [Region.binds] at hdep
  ·exact yV.val rfl (v:=.int .i64 (i:Int)) (za1 (.inl rfl) (Zu (Nat.le_of_ble_eq_true rfl) (by kernel_rfl))) ⟨rfl,Chg.refl _ _⟩
  ·exact yV.call rfl (zcE rfl rfl ((zH (Nat.le_of_ble_eq_true rfl) (by kernel_rfl) (by first | exact hdep | exact hdep.1 | exact hdep.2 | exact hdep.2.1 | exact hdep.2.2 | exact hdep.2.2.1 | exact hdep.2.2.2 | exact hdep.2.2.2.1 | exact hdep.2.2.2.2 | exact hdep.2.2.2.2.1 | exact hdep.2.2.2.2.2 | exact hdep.2.2.2.2.2.1 | exact hdep.2.2.2.2.2.2 | exact hdep.2.2.2.2.2.2.1 | exact hdep.2.2.2.2.2.2.2 | exact hdep.2.2.2.2.2.2.2.1 | exact hdep.2.2.2.2.2.2.2.2)).trans (hA 0 (by first | exact hdep | exact hdep.1 | exact hdep.2 | exact hdep.2.1 | exact hdep.2.2 | exact hdep.2.2.1 | exact hdep.2.2.2 | exact hdep.2.2.2.1 | exact hdep.2.2.2.2 | exact hdep.2.2.2.2.1 | exact hdep.2.2.2.2.2 | exact hdep.2.2.2.2.2.1 | exact hdep.2.2.2.2.2.2 | exact hdep.2.2.2.2.2.2.1 | exact hdep.2.2.2.2.2.2.2 | exact hdep.2.2.2.2.2.2.2.1 | exact hdep.2.2.2.2.2.2.2.2))) EH.out) ((zit W i hi).mono fun e W' ⟨he,hw⟩=>⟨_,he,rfl,hw ▸ Chg.refl _ _⟩)
  ·exact yV.val rfl (v:=.pointer (some ⟨w9.heap.size,0,none⟩)) (za1 (.inl rfl) (Zu (Nat.le_of_ble_eq_true rfl) (by kernel_rfl))) ⟨rfl,Chg.refl _ _⟩
  ·exact yV.val rfl (zhX rfl ((zH (Nat.le_of_ble_eq_true rfl) (by kernel_rfl) (by first | exact hdep | exact hdep.1 | exact hdep.2 | exact hdep.2.1 | exact hdep.2.2 | exact hdep.2.2.1 | exact hdep.2.2.2 | exact hdep.2.2.2.1 | exact hdep.2.2.2.2 | exact hdep.2.2.2.2.1 | exact hdep.2.2.2.2.2 | exact hdep.2.2.2.2.2.1 | exact hdep.2.2.2.2.2.2 | exact hdep.2.2.2.2.2.2.1 | exact hdep.2.2.2.2.2.2.2 | exact hdep.2.2.2.2.2.2.2.1 | exact hdep.2.2.2.2.2.2.2.2)).trans (hA 2 (by first | exact hdep | exact hdep.1 | exact hdep.2 | exact hdep.2.1 | exact hdep.2.2 | exact hdep.2.2.1 | exact hdep.2.2.2 | exact hdep.2.2.2.1 | exact hdep.2.2.2.2 | exact hdep.2.2.2.2.1 | exact hdep.2.2.2.2.2 | exact hdep.2.2.2.2.2.1 | exact hdep.2.2.2.2.2.2 | exact hdep.2.2.2.2.2.2.1 | exact hdep.2.2.2.2.2.2.2 | exact hdep.2.2.2.2.2.2.2.1 | exact hdep.2.2.2.2.2.2.2.2)))) ⟨rfl,Chg.refl _ _⟩
  ·exact yV.val rfl (zbV rfl ((zH (Nat.le_of_ble_eq_true rfl) (by kernel_rfl) (by first | exact hdep | exact hdep.1 | exact hdep.2 | exact hdep.2.1 | exact hdep.2.2 | exact hdep.2.2.1 | exact hdep.2.2.2 | exact hdep.2.2.2.1 | exact hdep.2.2.2.2 | exact hdep.2.2.2.2.1 | exact hdep.2.2.2.2.2 | exact hdep.2.2.2.2.2.1 | exact hdep.2.2.2.2.2.2 | exact hdep.2.2.2.2.2.2.1 | exact hdep.2.2.2.2.2.2.2 | exact hdep.2.2.2.2.2.2.2.1 | exact hdep.2.2.2.2.2.2.2.2)).trans (hA 3 (by first | exact hdep | exact hdep.1 | exact hdep.2 | exact hdep.2.1 | exact hdep.2.2 | exact hdep.2.2.1 | exact hdep.2.2.2 | exact hdep.2.2.2.1 | exact hdep.2.2.2.2 | exact hdep.2.2.2.2.1 | exact hdep.2.2.2.2.2 | exact hdep.2.2.2.2.2.1 | exact hdep.2.2.2.2.2.2 | exact hdep.2.2.2.2.2.2.1 | exact hdep.2.2.2.2.2.2.2 | exact hdep.2.2.2.2.2.2.2.1 | exact hdep.2.2.2.2.2.2.2.2))) (FA1.out W)) ⟨rfl,Chg.refl _ _⟩
  ·exact yV.val rfl (zbV rfl ((zH (Nat.le_of_ble_eq_true rfl) (by kernel_rfl) (by first | exact hdep | exact hdep.1 | exact hdep.2 | exact hdep.2.1 | exact hdep.2.2 | exact hdep.2.2.1 | exact hdep.2.2.2 | exact hdep.2.2.2.1 | exact hdep.2.2.2.2 | exact hdep.2.2.2.2.1 | exact hdep.2.2.2.2.2 | exact hdep.2.2.2.2.2.1 | exact hdep.2.2.2.2.2.2 | exact hdep.2.2.2.2.2.2.1 | exact hdep.2.2.2.2.2.2.2 | exact hdep.2.2.2.2.2.2.2.1 | exact hdep.2.2.2.2.2.2.2.2)).trans (hA 4 (by first | exact hdep | exact hdep.1 | exact hdep.2 | exact hdep.2.1 | exact hdep.2.2 | exact hdep.2.2.1 | exact hdep.2.2.2 | exact hdep.2.2.2.1 | exact hdep.2.2.2.2 | exact hdep.2.2.2.2.1 | exact hdep.2.2.2.2.2 | exact hdep.2.2.2.2.2.1 | exact hdep.2.2.2.2.2.2 | exact hdep.2.2.2.2.2.2.1 | exact hdep.2.2.2.2.2.2.2 | exact hdep.2.2.2.2.2.2.2.1 | exact hdep.2.2.2.2.2.2.2.2))) (FA2.out W)) ⟨rfl,Chg.refl _ _⟩
  ·exact yV.val rfl (zcD rfl ((zH (Nat.le_of_ble_eq_true rfl) (by kernel_rfl) (by first | exact hdep | exact hdep.1 | exact hdep.2 | exact hdep.2.1 | exact hdep.2.2 | exact hdep.2.2.1 | exact hdep.2.2.2 | exact hdep.2.2.2.1 | exact hdep.2.2.2.2 | exact hdep.2.2.2.2.1 | exact hdep.2.2.2.2.2 | exact hdep.2.2.2.2.2.1 | exact hdep.2.2.2.2.2.2 | exact hdep.2.2.2.2.2.2.1 | exact hdep.2.2.2.2.2.2.2 | exact hdep.2.2.2.2.2.2.2.1 | exact hdep.2.2.2.2.2.2.2.2)).trans (hA 5 (by first | exact hdep | exact hdep.1 | exact hdep.2 | exact hdep.2.1 | exact hdep.2.2 | exact hdep.2.2.1 | exact hdep.2.2.2 | exact hdep.2.2.2.1 | exact hdep.2.2.2.2 | exact hdep.2.2.2.2.1 | exact hdep.2.2.2.2.2 | exact hdep.2.2.2.2.2.1 | exact hdep.2.2.2.2.2.2 | exact hdep.2.2.2.2.2.2.1 | exact hdep.2.2.2.2.2.2.2 | exact hdep.2.2.2.2.2.2.2.1 | exact hdep.2.2.2.2.2.2.2.2))) (LK.out W hc)) ⟨rfl,Chg.refl _ _⟩
  ·exact yV.val rfl (zbT rfl ((zH (Nat.le_of_ble_eq_true rfl) (by kernel_rfl) (by first | exact hdep | exact hdep.1 | exact hdep.2 | exact hdep.2.1 | exact hdep.2.2 | exact hdep.2.2.1 | exact hdep.2.2.2 | exact hdep.2.2.2.1 | exact hdep.2.2.2.2 | exact hdep.2.2.2.2.1 | exact hdep.2.2.2.2.2 | exact hdep.2.2.2.2.2.1 | exact hdep.2.2.2.2.2.2 | exact hdep.2.2.2.2.2.2.1 | exact hdep.2.2.2.2.2.2.2 | exact hdep.2.2.2.2.2.2.2.1 | exact hdep.2.2.2.2.2.2.2.2)).trans (hA 6 (by first | exact hdep | exact hdep.1 | exact hdep.2 | exact hdep.2.1 | exact hdep.2.2 | exact hdep.2.2.1 | exact hdep.2.2.2 | exact hdep.2.2.2.1 | exact hdep.2.2.2.2 | exact hdep.2.2.2.2.1 | exact hdep.2.2.2.2.2 | exact hdep.2.2.2.2.2.1 | exact hdep.2.2.2.2.2.2 | exact hdep.2.2.2.2.2.2.1 | exact hdep.2.2.2.2.2.2.2 | exact hdep.2.2.2.2.2.2.2.1 | exact hdep.2.2.2.2.2.2.2.2))) (by kernel_rfl)) ⟨⟨_,rfl,zh _ _⟩,zi _ _ _⟩
  ·obtain ⟨g,eg,cg⟩:=hA 7 (by first | exact hdep | exact hdep.1 | exact hdep.2 | exact hdep.2.1 | exact hdep.2.2 | exact hdep.2.2.1 | exact hdep.2.2.2 | exact hdep.2.2.2.1 | exact hdep.2.2.2.2 | exact hdep.2.2.2.2.1 | exact hdep.2.2.2.2.2 | exact hdep.2.2.2.2.2.1 | exact hdep.2.2.2.2.2.2 | exact hdep.2.2.2.2.2.2.1 | exact hdep.2.2.2.2.2.2.2 | exact hdep.2.2.2.2.2.2.2.1 | exact hdep.2.2.2.2.2.2.2.2)
   exact yV.call rfl (zcE rfl rfl ((zH (Nat.le_of_ble_eq_true rfl) (by kernel_rfl) (by first | exact hdep | exact hdep.1 | exact hdep.2 | exact hdep.2.1 | exact hdep.2.2 | exact hdep.2.2.1 | exact hdep.2.2.2 | exact hdep.2.2.2.1 | exact hdep.2.2.2.2 | exact hdep.2.2.2.2.1 | exact hdep.2.2.2.2.2 | exact hdep.2.2.2.2.2.1 | exact hdep.2.2.2.2.2.2 | exact hdep.2.2.2.2.2.2.1 | exact hdep.2.2.2.2.2.2.2 | exact hdep.2.2.2.2.2.2.2.1 | exact hdep.2.2.2.2.2.2.2.2)).trans eg) EW.out) ((zah W g 0 1 key (by omega) (zg (o:=0) cg rfl)).mono fun e W' ⟨he,hw⟩=>⟨_,he,rfl,hw⟩)
  ·exact yV.val rfl (v:=.int .i64 (i:Int)) (za1 (.inl rfl) (Zu (Nat.le_of_ble_eq_true rfl) (by kernel_rfl))) ⟨rfl,Chg.refl _ _⟩
  ·exact yV.call rfl (zcE rfl rfl ((zH (Nat.le_of_ble_eq_true rfl) (by kernel_rfl) (by first | exact hdep | exact hdep.1 | exact hdep.2 | exact hdep.2.1 | exact hdep.2.2 | exact hdep.2.2.1 | exact hdep.2.2.2 | exact hdep.2.2.2.1 | exact hdep.2.2.2.2 | exact hdep.2.2.2.2.1 | exact hdep.2.2.2.2.2 | exact hdep.2.2.2.2.2.1 | exact hdep.2.2.2.2.2.2 | exact hdep.2.2.2.2.2.2.1 | exact hdep.2.2.2.2.2.2.2 | exact hdep.2.2.2.2.2.2.2.1 | exact hdep.2.2.2.2.2.2.2.2)).trans (hA 9 (by first | exact hdep | exact hdep.1 | exact hdep.2 | exact hdep.2.1 | exact hdep.2.2 | exact hdep.2.2.1 | exact hdep.2.2.2 | exact hdep.2.2.2.1 | exact hdep.2.2.2.2 | exact hdep.2.2.2.2.1 | exact hdep.2.2.2.2.2 | exact hdep.2.2.2.2.2.1 | exact hdep.2.2.2.2.2.2 | exact hdep.2.2.2.2.2.2.1 | exact hdep.2.2.2.2.2.2.2 | exact hdep.2.2.2.2.2.2.2.1 | exact hdep.2.2.2.2.2.2.2.2))) EM.out) ((zcV W i hi).mono fun e W' ⟨he,hw⟩=>⟨_,he,rfl,hw⟩)
  ·exact yV.val rfl (zbT rfl ((zH (Nat.le_of_ble_eq_true rfl) (by kernel_rfl) (by first | exact hdep | exact hdep.1 | exact hdep.2 | exact hdep.2.1 | exact hdep.2.2 | exact hdep.2.2.1 | exact hdep.2.2.2 | exact hdep.2.2.2.1 | exact hdep.2.2.2.2 | exact hdep.2.2.2.2.1 | exact hdep.2.2.2.2.2 | exact hdep.2.2.2.2.2.1 | exact hdep.2.2.2.2.2.2 | exact hdep.2.2.2.2.2.2.1 | exact hdep.2.2.2.2.2.2.2 | exact hdep.2.2.2.2.2.2.2.1 | exact hdep.2.2.2.2.2.2.2.2)).trans (hA 10 (by first | exact hdep | exact hdep.1 | exact hdep.2 | exact hdep.2.1 | exact hdep.2.2 | exact hdep.2.2.1 | exact hdep.2.2.2 | exact hdep.2.2.2.1 | exact hdep.2.2.2.2 | exact hdep.2.2.2.2.1 | exact hdep.2.2.2.2.2 | exact hdep.2.2.2.2.2.1 | exact hdep.2.2.2.2.2.2 | exact hdep.2.2.2.2.2.2.1 | exact hdep.2.2.2.2.2.2.2 | exact hdep.2.2.2.2.2.2.2.1 | exact hdep.2.2.2.2.2.2.2.2))) (by kernel_rfl)) ⟨⟨_,rfl,hc.size,zh _ _⟩,zi _ _ _⟩
  ·exact yV.val rfl (v:=.int .i64 t) (za1 (.inl rfl) (Zu (Nat.le_of_ble_eq_true rfl) (by kernel_rfl))) ⟨rfl,Chg.refl _ _⟩
  ·exact yV.val rfl (zbV (x:=.tmp 12) (a:=.pointer (some ⟨w2.heap.size,0,none⟩)) rfl (Zu (Nat.le_of_ble_eq_true rfl) (by kernel_rfl)) (FR.out W)) ⟨rfl,Chg.refl _ _⟩
  ·exact yV.val rfl (zcD rfl ((zH (Nat.le_of_ble_eq_true rfl) (by kernel_rfl) (by first | exact hdep | exact hdep.1 | exact hdep.2 | exact hdep.2.1 | exact hdep.2.2 | exact hdep.2.2.1 | exact hdep.2.2.2 | exact hdep.2.2.2.1 | exact hdep.2.2.2.2 | exact hdep.2.2.2.2.1 | exact hdep.2.2.2.2.2 | exact hdep.2.2.2.2.2.1 | exact hdep.2.2.2.2.2.2 | exact hdep.2.2.2.2.2.2.1 | exact hdep.2.2.2.2.2.2.2 | exact hdep.2.2.2.2.2.2.2.1 | exact hdep.2.2.2.2.2.2.2.2)).trans (hA 13 (by first | exact hdep | exact hdep.1 | exact hdep.2 | exact hdep.2.1 | exact hdep.2.2 | exact hdep.2.2.1 | exact hdep.2.2.2 | exact hdep.2.2.2.1 | exact hdep.2.2.2.2 | exact hdep.2.2.2.2.1 | exact hdep.2.2.2.2.2 | exact hdep.2.2.2.2.2.1 | exact hdep.2.2.2.2.2.2 | exact hdep.2.2.2.2.2.2.1 | exact hdep.2.2.2.2.2.2.2 | exact hdep.2.2.2.2.2.2.2.1 | exact hdep.2.2.2.2.2.2.2.2))) (LB.out W hc)) ⟨rfl,Chg.refl _ _⟩
  ·obtain ⟨g,eg,hg1,hg2⟩:=hA 11 (by first | exact hdep | exact hdep.1 | exact hdep.2 | exact hdep.2.1 | exact hdep.2.2 | exact hdep.2.2.1 | exact hdep.2.2.2 | exact hdep.2.2.2.1 | exact hdep.2.2.2.2 | exact hdep.2.2.2.2.1 | exact hdep.2.2.2.2.2 | exact hdep.2.2.2.2.2.1 | exact hdep.2.2.2.2.2.2 | exact hdep.2.2.2.2.2.2.1 | exact hdep.2.2.2.2.2.2.2 | exact hdep.2.2.2.2.2.2.2.1 | exact hdep.2.2.2.2.2.2.2.2)
   have e1:=((hev 93 1 (Nat.le_of_ble_eq_true rfl) (by kernel_rfl) (by first | exact hdep | exact hdep.1 | exact hdep.2 | exact hdep.2.1 | exact hdep.2.2 | exact hdep.2.2.1 | exact hdep.2.2.2 | exact hdep.2.2.2.1 | exact hdep.2.2.2.2 | exact hdep.2.2.2.2.1 | exact hdep.2.2.2.2.2 | exact hdep.2.2.2.2.2.1 | exact hdep.2.2.2.2.2.2 | exact hdep.2.2.2.2.2.2.1 | exact hdep.2.2.2.2.2.2.2 | exact hdep.2.2.2.2.2.2.2.1 | exact hdep.2.2.2.2.2.2.2.2)).trans (hA 1 (by first | exact hdep | exact hdep.1 | exact hdep.2 | exact hdep.2.1 | exact hdep.2.2 | exact hdep.2.2.1 | exact hdep.2.2.2 | exact hdep.2.2.2.1 | exact hdep.2.2.2.2 | exact hdep.2.2.2.2.1 | exact hdep.2.2.2.2.2 | exact hdep.2.2.2.2.2.1 | exact hdep.2.2.2.2.2.2 | exact hdep.2.2.2.2.2.2.1 | exact hdep.2.2.2.2.2.2.2 | exact hdep.2.2.2.2.2.2.2.1 | exact hdep.2.2.2.2.2.2.2.2)));have e8:=((hev 100 8 (Nat.le_of_ble_eq_true rfl) (by kernel_rfl) (by first | exact hdep | exact hdep.1 | exact hdep.2 | exact hdep.2.1 | exact hdep.2.2 | exact hdep.2.2.1 | exact hdep.2.2.2 | exact hdep.2.2.2.1 | exact hdep.2.2.2.2 | exact hdep.2.2.2.2.1 | exact hdep.2.2.2.2.2 | exact hdep.2.2.2.2.2.1 | exact hdep.2.2.2.2.2.2 | exact hdep.2.2.2.2.2.2.1 | exact hdep.2.2.2.2.2.2.2 | exact hdep.2.2.2.2.2.2.2.1 | exact hdep.2.2.2.2.2.2.2.2)).trans (hA 8 (by first | exact hdep | exact hdep.1 | exact hdep.2 | exact hdep.2.1 | exact hdep.2.2 | exact hdep.2.2.1 | exact hdep.2.2.2 | exact hdep.2.2.2.1 | exact hdep.2.2.2.2 | exact hdep.2.2.2.2.1 | exact hdep.2.2.2.2.2 | exact hdep.2.2.2.2.2.1 | exact hdep.2.2.2.2.2.2 | exact hdep.2.2.2.2.2.2.1 | exact hdep.2.2.2.2.2.2.2 | exact hdep.2.2.2.2.2.2.2.1 | exact hdep.2.2.2.2.2.2.2.2)));have e11:=(hev 103 11 (Nat.le_of_ble_eq_true rfl) (by kernel_rfl) (by first | exact hdep | exact hdep.1 | exact hdep.2 | exact hdep.2.1 | exact hdep.2.2 | exact hdep.2.2.1 | exact hdep.2.2.2 | exact hdep.2.2.2.1 | exact hdep.2.2.2.2 | exact hdep.2.2.2.2.1 | exact hdep.2.2.2.2.2 | exact hdep.2.2.2.2.2.1 | exact hdep.2.2.2.2.2.2 | exact hdep.2.2.2.2.2.2.1 | exact hdep.2.2.2.2.2.2.2 | exact hdep.2.2.2.2.2.2.2.1 | exact hdep.2.2.2.2.2.2.2.2)).trans eg;have e12:=((hev 104 12 (Nat.le_of_ble_eq_true rfl) (by kernel_rfl) (by first | exact hdep | exact hdep.1 | exact hdep.2 | exact hdep.2.1 | exact hdep.2.2 | exact hdep.2.2.1 | exact hdep.2.2.2 | exact hdep.2.2.2.1 | exact hdep.2.2.2.2 | exact hdep.2.2.2.2.1 | exact hdep.2.2.2.2.2 | exact hdep.2.2.2.2.2.1 | exact hdep.2.2.2.2.2.2 | exact hdep.2.2.2.2.2.2.1 | exact hdep.2.2.2.2.2.2.2 | exact hdep.2.2.2.2.2.2.2.1 | exact hdep.2.2.2.2.2.2.2.2)).trans (hA 12 (by first | exact hdep | exact hdep.1 | exact hdep.2 | exact hdep.2.1 | exact hdep.2.2 | exact hdep.2.2.1 | exact hdep.2.2.2 | exact hdep.2.2.2.1 | exact hdep.2.2.2.2 | exact hdep.2.2.2.2.1 | exact hdep.2.2.2.2.2 | exact hdep.2.2.2.2.2.1 | exact hdep.2.2.2.2.2.2 | exact hdep.2.2.2.2.2.2.1 | exact hdep.2.2.2.2.2.2.2 | exact hdep.2.2.2.2.2.2.2.1 | exact hdep.2.2.2.2.2.2.2.2)));have e14:=((hev 106 14 (Nat.le_of_ble_eq_true rfl) (by kernel_rfl) (by first | exact hdep | exact hdep.1 | exact hdep.2 | exact hdep.2.1 | exact hdep.2.2 | exact hdep.2.2.1 | exact hdep.2.2.2 | exact hdep.2.2.2.1 | exact hdep.2.2.2.2 | exact hdep.2.2.2.2.1 | exact hdep.2.2.2.2.2 | exact hdep.2.2.2.2.2.1 | exact hdep.2.2.2.2.2.2 | exact hdep.2.2.2.2.2.2.1 | exact hdep.2.2.2.2.2.2.2 | exact hdep.2.2.2.2.2.2.2.1 | exact hdep.2.2.2.2.2.2.2.2)).trans (hA 14 (by first | exact hdep | exact hdep.1 | exact hdep.2 | exact hdep.2.1 | exact hdep.2.2 | exact hdep.2.2.1 | exact hdep.2.2.2 | exact hdep.2.2.2.1 | exact hdep.2.2.2.2 | exact hdep.2.2.2.2.1 | exact hdep.2.2.2.2.2 | exact hdep.2.2.2.2.2.1 | exact hdep.2.2.2.2.2.2 | exact hdep.2.2.2.2.2.2.1 | exact hdep.2.2.2.2.2.2.2 | exact hdep.2.2.2.2.2.2.2.1 | exact hdep.2.2.2.2.2.2.2.2)));exact yV.val rfl (v:=Zn (xN i key t (M1:Int)) (.slice (some ⟨g,0,none⟩) 1 1)) (zj5 rfl (vs:=#[(0,.int .i64 1),(1,.int .u16 ((8193+i:Nat):Int)),(2,.string (ZL key)),(3,.slice (some ⟨g,0,none⟩) 1 1),(4,.int .i64 t),(5,.int .i64 4611686018427387904),(6,.int .i64 (M1:Int))]) (by simp only [List.map_toArray,List.map_cons,List.map_nil,e1,e8,e11,e12,e14];rfl) (by kernel_rfl)) ⟨⟨g,rfl,hg1,hg2⟩,Chg.refl _ _⟩
  ·exact yV.val rfl (ziV rfl (by kernel_rfl)) ⟨⟨_,rfl,hc.size,zh _ _⟩,zi _ _ _⟩
 case fin=>
  intro V W o ho hc hA;simp only [zlu,zlv,zlw,Option.some.injEq] at ho;subst ho;obtain ⟨gw,e15,hg1,ow⟩:=hA 15 (by decide);obtain ⟨gc,e16,hg2,oc16⟩:=hA 16 (by decide);clear hA FA1 FA2 FR LK LB EH EW EM;simp only [Xd,zaO,zlu,zlv,zlw,Option.bind_some];rw [e15,e16];generalize V 0=y0;generalize V 1=y1;generalize V 2=y2;generalize V 3=y3;generalize V 4=y4;generalize V 5=y5;generalize V 6=y6;generalize V 7=y7;generalize V 8=y8;generalize V 9=y9;generalize V 10=y10;generalize V 11=y11;generalize V 12=y12;generalize V 13=y13;generalize V 14=y14;clear e15 e16;simp only [Act.put,List.setIfInBounds_toArray,List.set_cons_succ,List.set_cons_zero];refine YR rfl 103 (.tmp 16) (.tmp 107) rfl gc rfl (Zn (xN i key t (M1:Int)) (.slice (some ⟨gw,0,none⟩) 1 1)) rfl ?hone #[.int .i64 0,.int .u16 0,.string ⟨#[]⟩,.slice none 0 0,.int .i64 0,.int .i64 0,.int .i64 0] 103 oc16 rfl Tryz.sizeCert ?hst
  case hone=>
   intro y hy;simp [Zn,Value.cells] at hy;rcases hy with rfl | rfl | rfl | rfl | rfl | rfl | rfl <;> rfl
  case hst=>
   intro w10 hob hc10;refine ⟨undef,rfl,?_⟩;have hgw:=zu ow;have hgc:=zu oc16;have hne:gw≠gc:=zja ow oc16 (by decide);have hob:w10.heap[gc]? = some (.cells #[.int .i64 1,.int .u16 ((8193+i:Nat):Int),.string (ZL key),.slice (some ⟨gw,0,none⟩) 1 1,.int .i64 t,.int .i64 4611686018427387904,.int .i64 (M1:Int)] 103 (0,0)):=hob;have KWN:Chg (fun _=>False) wn w10:=Chg.next ((zy (fun _=>False) wn).trans hc) hc10 (fun j hj e=>by omega)
   have K9s:=KN.out.trans KWN;have K6s:=K9.out.trans K9s;have CT:ZW w10 (.slice (some ⟨gw,0,none⟩) 1 1) (fun k=>k=gw) (xN i key t (M1:Int)):=⟨zcB (hc10.obj hne ow) (by rw [zbs];decide),by show (ZL key).size<=maxLen;rw [<- zz,Yy];simp [maxLen],by show 8193+i < 65536;omega⟩;have on10:=KWN.obj (fun e=>e) ON.out;have z6:w6.heap.size<=w9.heap.size:=K9.out.size;have zn:w10.heap.size >= W.heap.size:=hc10.size;have zw:wn.heap.size<=W.heap.size:=hc.size;have hw6:w.heap.size<=w6.heap.size:=by omega
   have hnB:¬ BB0 w9.heap.size:=fun e=>by have:=HBL.out _ e;omega
   have SN:Calls Tryz.prog 67 #[.pointer (some ⟨w9.heap.size,0,none⟩),.agg #[.int .i64 1,.int .u16 (8193+(i:Int)),.string (ZL key),.slice (some ⟨gw,0,none⟩) 1 1,.int .i64 t,.int .i64 4611686018427387904,.int .i64 (M1:Int)]] w10 _:=zcR w10 w9.heap.size b BB0 L M (xN i key t (M1:Int)) (some ⟨gw,0,none⟩) 1 (fun k=>k=gw) (zg (o:=8) on10 rfl) (BK6.out.chg K6s (fun _ _ e=>e)) hnB CT (fun k e=>by omega) BC.out (by omega);have SN:=zf SN;have CT10:=zf CT;have ON10:=zf on10;have OC10:=zf hob;have ST10:=zf (ST9.out.chg K9s (fun _ _ e=>e));have TB10:=zf (TB9.out.chg K9s (fun e=>e) (fun e=>e));have K610:=zf K6s;have HO10:=zf (HO6.out.chg K6s (fun _ _ e=>e));have D10:=zf (D6.out.chg K6s (fun _ _ e=>e));have f0:=zg (o:=0) hob rfl;have f1:=zg (o:=1) hob rfl;have f2:=zg (o:=2) hob rfl;have f3:=zg (o:=3) hob rfl;have f4:=zg (o:=4) hob rfl;have f5:=zg (o:=5) hob rfl;have f6:=zg (o:=6) hob rfl;clear CT on10 hob K9s K6s KWN ow oc16 hc hc10 ST9 TB9 HO6 D6 KN ON KD K9 BK6;go_wp2_with fail;(with_reducible refine SN.out.mono ?_);rintro e w11 ⟨rfl,BB1,bk11,k11,hbb1⟩;have z11:w10.heap.size<=w11.heap.size:=k11.size;have HSB10:=fun k (e:SB k)=>HSB.out k e;have nB:∀ k,w.heap.size<=k->¬ BB0 k:=fun k hk e=>by have:=HBL.out k e;omega
   have on11:=k11.obj hnB ON10.out;have ob11:=k11.obj (nB gc (by omega)) OC10.out
   have TK:zdB (yG L (8193+i,XD (xN i key t (M1:Int)))) (xN i key t (M1:Int))=true:=by
    unfold zdB;rw [BC.out,Bool.true_and];exact zlx (zfE (by omega))
   have BL:=zcU w11 w9.heap.size b sb BB1 SB (yG L (8193+i,XD (xN i key t (M1:Int)))) M (zf5 60) (xN i key t (M1:Int)) (some ⟨gw,0,none⟩) 1 (fun k=>k=gw) (zg (o:=8) on11 rfl) (zg (o:=0) on11 rfl) bk11 (ST10.out.chg k11 (fun k e=>nB k (by have:=HSB10 k e;omega))) (fun e=>by have:=HSB7.out _ e;omega) (CT10.out.chg k11 (fun k e=>nB k (by omega))) (fun k e=>⟨by omega,fun q=>by have:=HSB7.out k q;omega⟩) (by decide) (by decide);rw [TK] at BL;simp only [if_true,zh1 BC.out] at BL;have BL:Calls Tryz.prog 68 #[.pointer (some ⟨w9.heap.size,0,none⟩),.agg #[.int .i64 1,.int .u16 (8193+(i:Int)),.string (ZL key),.slice (some ⟨gw,0,none⟩) 1 1,.int .i64 t,.int .i64 4611686018427387904,.int .i64 (M1:Int)]] w11 _:=BL;have BL:=zf BL;have f0:=zg (o:=0) ob11 rfl;have f1:=zg (o:=1) ob11 rfl;have f2:=zg (o:=2) ob11 rfl;have f3:=zg (o:=3) ob11 rfl;have f4:=zg (o:=4) ob11 rfl;have f5:=zg (o:=5) ob11 rfl;have f6:=zg (o:=6) ob11 rfl;have ON11:=zf on11;have BK11:=zf bk11;have HB1:=zf hbb1;have TB11:=zf (TB10.out.chg k11 (nB _ (by omega)) (nB _ (by omega)));have HO11:=zf (HO10.out.chg k11 (fun k e=>nB k (by omega)));have D11:=zf (D10.out.chg k11 (fun k e q=>HBS.out k q e));have K611:=zf (Chg.next (S:=BB0) (K610.out.mono (fun _ _ e=>e.elim)) k11 (fun _ _ e=>e));clear on11 bk11 hbb1 TB10 HO10 D10 K610 ob11 ON10 OC10 CT10 ST10 SN TK k11;go_wp2_with fail;(with_reducible refine BL.out.mono ?_);rintro e w12 ⟨rfl,SB',st12,k12,hsb12⟩;have z12:w11.heap.size<=w12.heap.size:=k12.size;have HSB10:=fun k (e:SB k)=>HSB.out k e;have HSB7':=fun k (e:SB k)=>HSB7.out k e;have hS1:∀ k,SB' k->(w6.heap.size<=k∧k < w7.heap.size)∨w11.heap.size<=k:=fun k e=>(hsb12 k e).imp (fun q=>⟨HSB10 k q,HSB7' k q⟩) id
   have FIN:=zf (show ziQ w12 w9.heap.size w.heap.size ⟨sb,w7.heap.size+1,w7.heap.size,w8.heap.size+1,jb,b,i,t,key,(M1:Int),oa,oc,objs,.slice none 0 0,zdR (xN i key t (M1:Int)),SB',fun k=>w1.heap.size<=k∧k < w2.heap.size⟩ from
    ⟨k12.obj (fun e=>by have:=HSB7' _ e;omega) ON11.out,st12,TB11.out.chg k12 (fun e=>by have:=HSB7' _ e;omega) (fun e=>by have:=HSB7' _ e;omega),HO11.out.chg k12 (fun k e q=>by have:=HSB10 k q;omega),
     ⟨by omega,(by show _<=w7.heap.size+1;omega),(by show _<=w7.heap.size;omega),fun k e=>(by have:=hS1 k e;omega),fun k e=>⟨(by have:=e.1;omega),(by have:=e.2;omega)⟩⟩,
     ⟨(by show w7.heap.size+1≠_;omega),(by show w7.heap.size≠_;omega),fun e=>(by have:=hS1 _ e;omega),fun e=>(by have:=e.2;omega)⟩,
     ⟨fun e=>(by have:=hS1 (w7.heap.size+1) e;omega),fun e=>(by have:=hS1 w7.heap.size e;omega),fun k e q=>(by have:=hS1 k e;have:=q.2;omega)⟩⟩)
   have FBK:=zf (BK11.out.chg k12 (fun k e q=>by
    have h1:=HSB10 k q;have h2:=HSB7' k q;rcases HB1.out k e with r | r
    ·have:=HBL.out k r;omega
    ·have:=r.1;omega))
   have FD:=zf (D11.out.chg k12 (fun k e q=>by have h1:=HSB10 k q;have h2:=HB.out k e;omega));have FK:=zf (Chg.next (S:=fun k=>B.S k∨BB k) (K6.out.mono (fun k _ e=>.inl e)) (Chg.next (S:=BB0) K611.out k12 (fun k hk q=>by have h1:=HSB10 k q;omega)) (fun k _ e=>.inr (HB0.out k e)));have HS12:=zf hsb12;clear st12 k12 hsb12 BL K611 D11 HO11 TB11 BK11 ON11 f0 f1 f2 f3 f4 f5 f6;go_wp2;go_ret2;have hM1':=HM1.out;refine ⟨w9.heap.size,_,d',rfl,FIN.out,rfl,rfl,rfl,by rw [HKEY.out,hM1'],by rw [<- hM1'],rfl,rfl,?_,FD.out,?_,⟨BB1,?_,?_,?_,?_,?_,?_,?_⟩,FK.out⟩
   ·rw [<- hM1',<- HKEY.out]
   ·rw [<- hM1',<- ES.out];exact CC.out
   ·rw [<- hM1',<- HKEY.out];exact FBK.out
   ·intro k e
    rcases HB1.out k e with q | q
    ·exact .inl (HB0.out k q)
    ·exact .inr (by omega)
   ·intro e
    rcases HB1.out _ e with q | q
    ·have:=HBL.out _ q;omega
    ·omega
   ·intro k e q
    rcases HB1.out k q with r | r
    ·have h2:=HBL.out k r
     rcases HS12.out k e with u | u
     ·have:=HSB.out k u;omega
     ·omega
    ·rcases HS12.out k e with u | u
     ·have:=HSB7.out k u;omega
     ·omega
   ·intro e
    rcases HB1.out _ e with q | q
    ·have:=HBL.out _ q;have:w7.heap.size+1 < w.heap.size:=this;omega
    ·have:w10.heap.size<=w7.heap.size+1:=q.1;omega
   ·intro e
    rcases HB1.out _ e with q | q
    ·have:=HBL.out _ q;have:w7.heap.size < w.heap.size:=this;omega
    ·have:w10.heap.size<=w7.heap.size:=q.1;omega
   ·intro k e q
    have h1:=e.1;have h2:=e.2;rcases HB1.out k q with r | r
    ·have h2:=HBL.out k r;omega
    ·omega
end Go.Proofs.YtcilaocknhphnaaGreat
