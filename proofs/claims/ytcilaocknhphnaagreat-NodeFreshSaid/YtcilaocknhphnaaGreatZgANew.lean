/-
  Package letter: the bytes of a message that opens a channel, or hands certificates over. Records in memory. Package acl: clone, may, Same, find. Package acl: find, Add. Package acl: New.
-/
import Derived.Test.YtcilaocknhphnaaGreatZgRBase
import Derived.Test.YtcilaocknhphnaaGreatZgCSet
import Derived.Test.YtcilaocknhphnaaGreatZgURun
namespace Go.Proofs.YtcilaocknhphnaaGreat
open Go.RowKit Go.Maps
def ziE (k:Int) (c:Nat) (cv:Value):Value:=.agg #[.int .i64 k,.int .u16 (c:Int),.int .i64 0,.int .i64 0,.int .i64 0,.int .i64 0,.int .i64 0,.slice none 0 0,.int .i64 0,.int .i64 0,.string ⟨#[]⟩,cv]
def zjR (k:Int):Value:=.agg #[.int .i64 k,.int .u16 0,.int .i64 0,.int .i64 0,.int .i64 0,.int .i64 0,.int .i64 0,.slice none 0 0,.int .i64 0,.int .i64 0,.string ⟨#[]⟩,.slice none 0 0]
def YS (s:List UInt8):List UInt8:=zW s.length++s
def zbD (L:List zF):List UInt8:=zW L.length++L.flatMap fun c=>YS (Zk c)
def Yu (c:Nat) (L:List zF):List UInt8:=zW 1++(zW c++zbD L)
theorem zcZ (w:World) (a:Nat) (ha:a < 65536):Calls Tryz.prog 261 #[.int .u16 (a:Int)] w fun e w'=>e=.returned (.bool (decide (a / 8192=2)))∧w=w':=by
 have e1:IntKind.u16.wrap ((a:Int) / 8192)=(a:Int) / 8192:=by rw [IntKind.wrap_u16];omega
 go_enter Tryz.func261,Tryz.ntmps261;go_wp2;go_ret;exact ⟨by show Ending.returned (Value.bool ((a:Int) / 8192 == 2))=_;congr 2;rw [Bool.eq_iff_iff];simp;omega,rfl⟩
set_option maxHeartbeats 1000000 in
set_option maxRecDepth 100000 in
theorem zcX (w:World):Calls Tryz.prog 331 #[.agg #[.int .i64 0,.int .i64 0,.int .i64 0,.int .i64 0,.slice none 0 0],.agg #[.int .i64 0,.int .i64 0,.int .i64 0,.int .i64 0,.slice none 0 0]] w fun e w'=>e=.returned (.bool true)∧Chg (fun _=>False) w w':=by
 have wn:∀ w,zV w (.slice none 0 0) (fun _=>False) []:=fun w=>⟨none,0,rfl,by simp,fun j x hj=>by simp at hj⟩;have EQ:=zf (fun w=>zc7 w _ _ _ _ [] [] (wn w) (wn w));have k1:=(zi (fun _=>False) w (.cells #[.int .i64 0,.int .i64 0,.int .i64 0,.int .i64 0,.slice none 0 0] 56)).trans (zi (fun _=>False) _ (.cells #[.int .i64 0,.int .i64 0,.int .i64 0,.int .i64 0,.slice none 0 0] 56));have K1:=zf k1;clear k1;go_enter Tryz.func331,Tryz.ntmps331;go_wp2_with fail;(with_reducible refine (EQ.out _).mono ?_);rintro e w2 ⟨rfl,d2⟩;have K2:=zf (K1.out.trans d2.chg);clear d2 K1;go_wp2;go_ret;exact ⟨rfl,K2.out⟩
theorem zea (w:World) (f:Value):Calls Tryz.prog 332 #[.slice none 0 0,.slice none 0 0,f] w fun e w'=>e=.returned (.bool true)∧w=w':=by
 go_enter Tryz.func332,Tryz.ntmps332;go_wp2;go_loopw [17] (fun iv wr=>iv=.int .i64 0∧w=wr) (fun _ _=>0)
 case atStart=>exact ⟨rfl,rfl⟩
 case round=>
  obtain ⟨rfl,rfl⟩:=hrel;go_wp2;go_ret;exact ⟨rfl,rfl⟩
set_option maxHeartbeats 2000000 in
set_option maxRecDepth 100000 in
theorem zgO (w:World) (k:Int):Calls Tryz.prog 301 #[zjR k,zjR k] w fun e w'=>e=.returned (.bool true)∧Chg (fun _=>False) w w':=by
 have SA:=zf zcX;have EQ:=zf zea;have ka:=(zi (fun _=>False) w (.cells #[.int .i64 k,.int .u16 0,.int .i64 0,.int .i64 0,.int .i64 0,.int .i64 0,.int .i64 0,.slice none 0 0,.int .i64 0,.int .i64 0,.string ⟨#[]⟩,.slice none 0 0] 61));have kb:=(zi (fun _=>False) (w.alloc (.cells #[.int .i64 k,.int .u16 0,.int .i64 0,.int .i64 0,.int .i64 0,.int .i64 0,.int .i64 0,.slice none 0 0,.int .i64 0,.int .i64 0,.string ⟨#[]⟩,.slice none 0 0] 61)) (.cells #[.int .i64 k,.int .u16 0,.int .i64 0,.int .i64 0,.int .i64 0,.int .i64 0,.int .i64 0,.slice none 0 0,.int .i64 0,.int .i64 0,.string ⟨#[]⟩,.slice none 0 0] 61));have oa:=kb.obj (fun e=>e) (zh w (.cells #[.int .i64 k,.int .u16 0,.int .i64 0,.int .i64 0,.int .i64 0,.int .i64 0,.int .i64 0,.slice none 0 0,.int .i64 0,.int .i64 0,.string ⟨#[]⟩,.slice none 0 0] 61));have ob:=zh (w.alloc (.cells #[.int .i64 k,.int .u16 0,.int .i64 0,.int .i64 0,.int .i64 0,.int .i64 0,.int .i64 0,.slice none 0 0,.int .i64 0,.int .i64 0,.string ⟨#[]⟩,.slice none 0 0] 61)) (.cells #[.int .i64 k,.int .u16 0,.int .i64 0,.int .i64 0,.int .i64 0,.int .i64 0,.int .i64 0,.slice none 0 0,.int .i64 0,.int .i64 0,.string ⟨#[]⟩,.slice none 0 0] 61);have K1:=zf (ka.trans kb);rw [zlH] at ob;have OA:=zf oa;have OB:=zf ob;clear ka kb oa ob;unfold zjR;go_enter Tryz.func301,Tryz.ntmps301;go_wp2_with fail;(with_reducible refine (SA.out _).mono ?_);rintro e w2 ⟨rfl,k2⟩;have K2:=zf (K1.out.trans k2);have a11:=zg (o:=11) (k2.obj (fun e=>e) OA.out) rfl;have b11:=zg (o:=11) (k2.obj (fun e=>e) OB.out) rfl;clear k2 K1;go_wp2_with fail;(with_reducible refine (EQ.out _ _).mono ?_);rintro e w3 ⟨rfl,rfl⟩;go_wp2;go_ret;exact ⟨rfl,K2.out⟩
set_option maxRecDepth 100000 in
theorem zgT (w:World) (k:Int):Calls Tryz.prog 263 #[zjR k] w fun e w'=>e=.returned (.bool true)∧Chg (fun _=>False) w w':=by
 have SM:=zf (fun w=>zgO w k);have ka:=zf (zi (fun _=>False) w (.cells #[.int .i64 k,.int .u16 0,.int .i64 0,.int .i64 0,.int .i64 0,.int .i64 0,.int .i64 0,.slice none 0 0,.int .i64 0,.int .i64 0,.string ⟨#[]⟩,.slice none 0 0] 61));unfold zjR at *;go_enter Tryz.func263,Tryz.ntmps263;go_wp2_with fail;(with_reducible refine (SM.out _).mono ?_);rintro e w2 ⟨rfl,k2⟩;have K2:=zf (ka.out.trans k2);clear k2 ka;go_wp2;go_ret;exact ⟨rfl,K2.out⟩
set_option maxHeartbeats 1000000 in
set_option maxRecDepth 100000 in
theorem zfF (w:World) (v:Value) (G:Nat->Prop) (P:List (zF × Value)) (h:yo w v G P) (hl:P.length<=8) (hc:∀ p∈P,Zj p.1=true):
  Calls Tryz.prog 262 #[v] w fun e w'=>e=.returned (.bool true)∧Chg (fun _=>False) w w':=by
 have H:=zf h;have HC:=zf hc;obtain ⟨la,cap,rfl,hl0,_⟩:=h;unfold maxLen at hl0;have g1:decide (8 < (P.length:Int))=false:=zly (by omega);have g1':decide (8 < P.length)=false:=zly (by omega);clear hc;go_enter Tryz.func262,Tryz.ntmps262;go_wp2;go_loopw [10] (fun iv wr=>∃ k:Nat,k<=P.length∧iv=.int .i64 k∧Hid (Chg (fun _=>False) w wr)) (fun iv _=>P.length - (intOf iv).toNat)
 case atStart=>exact ⟨0,by omega,rfl,zf (Chg.refl _ _)⟩
 case round=>
  obtain ⟨k,hk,rfl,KW⟩:=hrel;by_cases hlt:k < P.length
  ·obtain ⟨p,hp⟩:∃ p,P[k]? = some p:=⟨_,zlz hlt⟩
   have hcb:=HC.out p (zlB hp);have hw:=H.out.chg KW.out (fun _ _ e=>e);obtain ⟨_,_,e1,_,hcl⟩:=hw;cases e1;obtain ⟨g,o,sa,sc,rfl,_,e2,c0,c1,c2,c3,c4,c5,c6,hca⟩:=hcl k p hp;obtain ⟨⟨kind,sg,sp,fr,f,t,n⟩,pv⟩:=p;simp only at e2 c0 c1 c2 c3 c4 c5 c6 hca hcb;subst e2;have ka:=zi (fun _=>False) wr (.cells #[.int .i64 kind,.int .u16 (sg:Int),.string sp,.slice sa fr.length sc,.int .i64 f,.int .i64 t,.int .i64 n] 103);have CK:=zdb _ ⟨kind,sg,sp,fr,f,t,n⟩ sa sc G (hca.chg ka (fun _ _ e=>e));rw [hcb] at CK;unfold Zn YO at CK;have CK:=zf CK;have KA:=zf (KW.out.trans ka);clear hca hcl ka hp KW;go_wp2_with fail;(with_reducible refine CK.out.mono ?_);rintro e w2 ⟨⟨z,rfl,hz⟩,k2⟩;have hz0:z=0:=hz.2 (by first | rfl | trivial);subst hz0;have K2:=zf (KA.out.trans k2);clear k2 KA CK c0 c1 c2 c3 c4 c5 c6 hz;go_wp2;go_roundw
   case rel=>exact ⟨k+1,by omega,by go_num,K2⟩
   case measure=>simp [intOf];omega
  ·obtain rfl:k=P.length:=by omega
   go_wp2;go_ret;exact ⟨rfl,KW.out⟩
def ZC (w:World) (v:Value) (G:Nat->Prop) (L:List Yr):Prop:=
  ∃ la cap,v=.slice la L.length cap∧L.length<=cap∧cap<=maxLen∧(la=none->cap=0) ∧
    ∀ (j:Nat) x,L[j]? = some x->∃ g o ev,la=some ⟨g,o,none⟩∧G g∧w.cell? ⟨g,o+j*3,none⟩=some (.int .i64 x.val)∧w.cell? ⟨g,o+j*3+1,none⟩=some ev∧w.cell? ⟨g,o+j*3+2,none⟩=some (.int .i64 x.ver)∧ZG w ev G x.ents
theorem ZC.chg {S:Nat->Prop} {w w':World} {v:Value} {G:Nat->Prop} {L:List Yr} (h:ZC w v G L) (hc:Chg S w w') (hs:∀ k,G k->¬ S k):ZC w' v G L:=by
 obtain ⟨la,cap,h1,h2,h3,h4,h5⟩:=h
 exact ⟨la,cap,h1,h2,h3,h4,fun j x hj=>by
  obtain ⟨g,o,ev,q1,q2,q3,q4,q5,q6⟩:=h5 j x hj;exact ⟨g,o,ev,q1,q2,zj hc (hs g q2) q3,zj hc (hs g q2) q4,zj hc (hs g q2) q5,q6.chg hc hs⟩⟩
theorem ZC.up {w:World} {v:Value} {G G':Nat->Prop} {L:List Yr} (h:ZC w v G L) (hg:∀ k,G k->G' k):ZC w v G' L:=by
 obtain ⟨la,cap,h1,h2,h3,h4,h5⟩:=h
 exact ⟨la,cap,h1,h2,h3,h4,fun j x hj=>by
  obtain ⟨g,o,ev,q1,q2,q3,q4,q5,q6⟩:=h5 j x hj;exact ⟨g,o,ev,q1,hg _ q2,q3,q4,q5,q6.up hg⟩⟩
theorem ZC.shape {w:World} {v:Value} {G:Nat->Prop} {L:List Yr} (h:ZC w v G L):∃ la cap,v=.slice la L.length cap∧L.length<=cap∧cap<=maxLen∧(la=none->cap=0):=by
 obtain ⟨la,cap,h1,h2,h3,h4,_⟩:=h;exact ⟨la,cap,h1,h2,h3,h4⟩
theorem ZC.get {w:World} {la:Option Addr} {n cap:Nat} {G:Nat->Prop} {L:List Yr} (h:ZC w (.slice la n cap) G L) {j:Nat} {x:Yr} (hj:L[j]? = some x):
  ∃ g o ea ec,la=some ⟨g,o,none⟩∧G g∧w.cell? ⟨g,o+j*3,none⟩=some (.int .i64 x.val)∧w.cell? ⟨g,o+j*3+1,none⟩=some (.slice ea x.ents.length ec)∧w.cell? ⟨g,o+j*3+2,none⟩=some (.int .i64 x.ver)∧ZG w (.slice ea x.ents.length ec) G x.ents:=by
 obtain ⟨la',cap',e,_,_,_,h5⟩:=h;cases e;obtain ⟨g,o,ev,q1,q2,q3,q4,q5,q6⟩:=h5 j x hj;obtain ⟨ea,ec,rfl,_⟩:=q6.shape;exact ⟨g,o,ea,ec,q1,q2,q3,q4,q5,q6⟩
theorem zfy (w:World) (G:Nat->Prop):ZC w (.slice none 0 0) G []:=
 ⟨none,0,rfl,zlS _,by unfold maxLen;omega,fun _=>rfl,fun j x h=>by simp at h⟩
def zk3 (w:World) (v:Value) (G:Nat->Prop) (r:zcn):Prop:=∃ ov,v=.agg #[.int .i64 r.boot,ov]∧ZC w ov G r.objs
structure zla (r:zcn):Prop where
  objs:r.objs.length<=6
  ents:∀ o∈r.objs,o.ents.length<=14
  who:∀ o∈r.objs,∀ x∈o.ents,x.2.length<=18
  word:∀ o∈r.objs,∀ x∈o.ents,∀ s∈x.2,s.size<=100
set_option maxRecDepth 100000 in
theorem YH (w:World) (g o n c:Nat) (G:Nat->Prop) (l:List ByteArray) (hv:zV w (.slice (some ⟨g,o,none⟩) n c) G l) (hl:l.length<=1000):
  Calls Tryz.prog 166 #[.slice (some ⟨g,o,none⟩) n c] w fun e w'=>∃ v,e=.returned v∧w'.ownsRow w.heap.size 29 1 v l.length (zO l)∧Chg (fun _=>False) w w':=by
 have SRC:=zf (xU hv);obtain ⟨la,cap,e,hl0,_⟩:=hv;cases e;have EQN:=fun w=>Lib.run_eql_slice_nil (P:=Tryz.prog) w 32 _ (some ⟨g,o,none⟩) l.length c 0 0 Tryz.underlying32;go_enter Tryz.func166,Tryz.ntmps166;go_wp2_with (at_builtin;refine Ye rfl (.tmp 5) (.tmp 6) 32 rfl 29 1 16 Tryz.underlying32 Tryz.elemWord w.heap.size _ 0 [] rfl (yX _ _ _ _ (zlS _)) (some ⟨g,o,none⟩) l.length c (zO l) rfl ?a1 ?a2 ?a3 ?a4 ?a5 ?a6 ?a7 ?nx1)
 case a1=>unfold zO;rw [zlD];omega
 case a2=>
  intro j u hj;obtain ⟨g',o',e,c1⟩:=SRC.out j u hj;exact ⟨g',o',e,zj (zi (fun _=>False) w _) (fun e=>e) c1⟩
 case a3=>intro e;cases e
 case a4=>exact xi l
 case a5=>omega
 case a6=>unfold maxLen;omega
 case a7=>simp
 intro v8 w8 o8 g8;obtain ⟨a8,c8,rfl⟩:=zl o8
 have k8:Chg (fun _=>False) w w8:=(zi (fun _=>False) w (.cells #[] 29)).next (Chg.of_grown g8) (fun x hx e=>by
  have e2:w.heap.size=x:=by simpa [Value.ownBlock] using e
  omega)
 have K8:=zf k8;have O8:=zf (show w8.ownsRow w.heap.size 29 1 (.slice a8 (0+l.length) c8) l.length (zO l) from by simpa using o8);clear o8 g8 k8;go_wp2;go_ret;exact ⟨_,rfl,(by have:=O8.out;rw [Nat.zero_add] at this;exact this),K8.out⟩
set_option maxRecDepth 100000 in
theorem zfT (w:World) (x:ZE) (a:Option Addr) (n c:Nat) (G:Nat->Prop) (hv:yR w (.slice a n c) G x.2) (h1:1<=x.2.length) (h2:x.2.length<=1000):
  Calls Tryz.prog 297 #[.agg #[.int .i64 x.1,.slice a n c]] w fun e w'=>∃ v,e=.returned (.agg #[.int .i64 x.1,v])∧w'.ownsRow w.heap.size 29 1 v x.2.length (zO x.2)∧Chg (fun _=>False) w w':=by
 obtain ⟨g,o,rfl,hg⟩:=hv.some (by omega);have CL:=zf (fun w1 (k:Chg (fun _=>False) w w1)=>YH w1 g o n c G x.2 (hv.at_.chg k (fun _ _ e=>e)) h2);clear hv;obtain ⟨op,l⟩:=x;simp only at CL h1 h2 ⊢;go_enter Tryz.func297,Tryz.ntmps297;go_wp2_with fail;have k1:=((zi (fun _=>False) w (.cells #[.int .i64 op,.slice (some ⟨g,o,none⟩) n c] 34)).alloc (.cells #[.int .i64 0,.slice none 0 0] 34));have C1:=zf (CL.out _ k1);have K1:=zf k1;clear k1 CL;(with_reducible refine C1.out.mono ?_);rintro e w2 ⟨v2,rfl,o2,k2⟩;obtain ⟨a2,c2,rfl⟩:=zl o2;have o6:=k2.obj (fun e=>e) (yc (.cells #[.int .i64 0,.slice none 0 0] 34) (zh w (.cells #[.int .i64 op,.slice (some ⟨g,o,none⟩) n c] 34)));have o7:=k2.obj (fun e=>e) (zh (w.alloc (.cells #[.int .i64 op,.slice (some ⟨g,o,none⟩) n c] 34)) (.cells #[.int .i64 0,.slice none 0 0] 34));rw [zlH] at o7;have c0:w2.cell? ⟨w.heap.size,0,none⟩=some (.int .i64 op):=zg o6 rfl;have c1:w2.cell? ⟨w.heap.size,1,none⟩=some (.slice (some ⟨g,o,none⟩) n c):=zg o6 rfl;have d0:w2.cell? ⟨w.heap.size+1,0,none⟩=some (.int .i64 0):=zg o7 rfl;have d1:w2.cell? ⟨w.heap.size+1,1,none⟩=some (.slice none 0 0):=zg o7 rfl;have f0:=zk (o:=0) o6;have f1:=zk (o:=1) o6;have e0:=zk (o:=0) o7;have e1:=zk (o:=1) o7;have O2:=zf o2;have O7:=zf o7;have K2:=zf (K1.out.trans k2);clear o6 o7 o2 k2 K1 C1
 have HO:=zf (show ∀ W,W=(((w2.setCell ⟨w.heap.size,1,none⟩ (.slice a2 l.length c2)).setCell ⟨w.heap.size+1,0,none⟩ (.int .i64 op)).setCell ⟨w.heap.size+1,1,none⟩ (.slice a2 l.length c2))->World.ownsRow W w.heap.size 29 1 (.slice a2 l.length c2) l.length (zO l)∧Chg (fun _=>False) w W∧W.cell? ⟨w.heap.size+1,0,none⟩=some (.int .i64 op)∧W.cell? ⟨w.heap.size+1,1,none⟩=some (.slice a2 l.length c2) from fun W hW=>by
  subst hW
  have kk:Chg (fun k=>k=w.heap.size∨k=w.heap.size+1) w2 (((w2.setCell ⟨w.heap.size,1,none⟩ (.slice a2 l.length c2)).setCell ⟨w.heap.size+1,0,none⟩ (.int .i64 op)).setCell ⟨w.heap.size+1,1,none⟩ (.slice a2 l.length c2)):=
   (((Chg.refl _ w2).setCell (p:=⟨w.heap.size,1,none⟩) (fun _=>.inl rfl) _).setCell (p:=⟨w.heap.size+1,0,none⟩) (fun _=>.inr rfl) _).setCell (p:=⟨w.heap.size+1,1,none⟩) (fun _=>.inr rfl) _
  have ob:=zq (o:=1) (zq (o:=0) ((xG 1 (.slice a2 l.length c2) (show w.heap.size+1≠w.heap.size by omega)).trans O7.out) (.int .i64 op)) (.slice a2 l.length c2);refine ⟨YK (zo O2.out kk (fun k hk e=>?_)) (by simp;omega),K2.out.next kk (fun k hk e=>by omega),zg ob rfl,zg ob rfl⟩;have:=(O2.out.lt k hk).1;simp at this;omega)
 clear O2 K2 O7;go_wp2;obtain ⟨W,hW⟩:∃ W,W=(((w2.setCell ⟨w.heap.size,1,none⟩ (.slice a2 l.length c2)).setCell ⟨w.heap.size+1,0,none⟩ (.int .i64 op)).setCell ⟨w.heap.size+1,1,none⟩ (.slice a2 l.length c2)):=⟨_,rfl⟩;obtain ⟨h1,h2,z0,z1⟩:=HO.out W hW;rw [<- hW];clear hW HO;refine bodyPost_ret (v:=.agg #[.int .i64 op,.slice a2 l.length c2]) (by simp [results,Tryz.results297,go_sem,z0,z1]) rfl ?_;exact ⟨_,rfl,h1,h2⟩
theorem zjB {x:ZE} (h:¬ (0<=x.1∧x.1 < 8)):zec x=false:=by
 rw [<- zlW,Yj];exact fun q=>h q.1
theorem ziB {x:ZE} (h:0<=x.1∧x.1 < 8):zec x=xw x.2:=by
 rw [Bool.eq_iff_iff,Yj];exact ⟨fun q=>q.2,fun q=>⟨h,q⟩⟩
set_option maxRecDepth 100000 in
theorem ziC (w:World) (x:ZE) (a:Option Addr) (n c:Nat) (G:Nat->Prop) (hv:zV w (.slice a n c) G x.2):
  Calls Tryz.prog 295 #[.agg #[.int .i64 x.1,.slice a n c]] w fun e w'=>e=.returned (.bool (zec x))∧Chg (fun _=>False) w w':=by
 have k1:=zi (fun _=>False) w (.cells #[.int .i64 x.1,.slice a n c] 34);have MAY:=zf (Yt _ _ G x.2 (hv.chg k1 (fun _ _ e=>e)));have YES:=zf (fun h=>ziB (x:=x) h);have NO:=zf (fun h=>zjB (x:=x) h);have K1:=zf k1;clear k1 hv;generalize zec x=b at *;obtain ⟨op,l⟩:=x;simp only at MAY YES NO K1 ⊢;by_cases h0:0<=op
 ·have g0:decide (0<=op)=true:=zlx h0
  by_cases h1:op < 8
  ·have g1:decide (op < 8)=true:=zlx h1
   rw [<- YES.out ⟨h0,h1⟩] at MAY;clear h0 h1 YES NO;go_enter Tryz.func295,Tryz.ntmps295;go_wp2_with fail;(with_reducible refine MAY.out.mono ?_);rintro e w2 ⟨rfl,d2⟩;have K2:=zf (K1.out.trans d2.chg);clear d2 MAY K1;cases b
   all_goals
    go_wp2;go_ret;exact ⟨rfl,K2.out⟩
  ·have g1:decide (op < 8)=false:=zly h1
   obtain rfl:=NO.out (fun q=>h1 q.2);clear h0 h1 YES NO MAY;go_enter Tryz.func295,Tryz.ntmps295;go_wp2;go_ret;exact ⟨rfl,K1.out⟩
 ·have g0:decide (0<=op)=false:=zly h0
  obtain rfl:=NO.out (fun q=>h0 q.1);clear h0 YES NO MAY;go_enter Tryz.func295,Tryz.ntmps295;go_wp2;go_ret;exact ⟨rfl,K1.out⟩
def eqB (x y:ZE):Bool:=decide (x=y)
theorem zkr {x y:ZE} (h:x.1≠y.1):eqB x y=false:=zly (fun e=>h (by rw [e]))
theorem zjz {x y:ZE} (h:x.1=y.1):eqB x y=Xa x.2 y.2:=by
 unfold eqB Xa;rw [Bool.eq_iff_iff,decide_eq_true_eq,decide_eq_true_eq];exact ⟨fun e=>by rw [e],fun e=>Prod.ext h e⟩
set_option maxRecDepth 100000 in
theorem zhd (w:World) (x y:ZE) (a b:Option Addr) (n c m d:Nat) (G G':Nat->Prop) (hv:zV w (.slice a n c) G x.2) (hu:zV w (.slice b m d) G' y.2):
  Calls Tryz.prog 285 #[.agg #[.int .i64 x.1,.slice a n c],.agg #[.int .i64 y.1,.slice b m d]] w fun e w'=>e=.returned (.bool (eqB x y))∧Chg (fun _=>False) w w':=by
 have k1:=(zi (fun _=>False) w (.cells #[.int .i64 x.1,.slice a n c] 34)).alloc (.cells #[.int .i64 y.1,.slice b m d] 34);have EQ:=zf (zc7 _ _ _ G G' x.2 y.2 (hv.chg k1 (fun _ _ e=>e)) (hu.chg k1 (fun _ _ e=>e)));have YES:=zf (fun h=>zjz (x:=x) (y:=y) h);have NO:=zf (fun h=>zkr (x:=x) (y:=y) h);have K1:=zf k1;clear k1 hv hu;generalize eqB x y=r at *;obtain ⟨op,l⟩:=x;obtain ⟨oq,k⟩:=y;simp only at EQ YES NO K1 ⊢;by_cases h0:op=oq
 ·have g0:(op == oq)=true:=beq_iff_eq.2 h0
  rw [<- YES.out h0] at EQ;clear h0 YES NO;go_enter Tryz.func285,Tryz.ntmps285;go_wp2_with fail;(with_reducible refine EQ.out.mono ?_);rintro e w2 ⟨rfl,d2⟩;have K2:=zf (K1.out.trans d2.chg);clear d2 EQ K1;cases r
  all_goals
   go_wp2;go_ret;exact ⟨rfl,K2.out⟩
 ·have g0:(op == oq)=false:=zlI.2 h0
  obtain rfl:=NO.out h0;clear h0 YES NO EQ;go_enter Tryz.func285,Tryz.ntmps285;go_wp2;go_ret;exact ⟨rfl,K1.out⟩
set_option maxRecDepth 100000 in
theorem zhb (w:World) (x y:ZE) (a b:Option Addr) (n c m d p:Nat) (G G':Nat->Prop) (hp:w.heap[p]? = some (.cells #[.int .i64 x.1,.slice a n c] 34 (0,0))) (hv:zV w (.slice a n c) G x.2) (hu:zV w (.slice b m d) G' y.2):
  Calls Tryz.prog 327 #[.agg #[.int .i64 y.1,.slice b m d],.pointer (some ⟨p,0,none⟩)] w fun e w'=>e=.returned (.bool (eqB x y))∧Chg (fun _=>False) w w':=by
 have k1:=zi (fun _=>False) w (.cells #[.int .i64 y.1,.slice b m d] 34);have SA:=zf (zhd _ x y a b n c m d G G' (hv.chg k1 (fun _ _ e=>e)) (hu.chg k1 (fun _ _ e=>e)));have o1:=k1.obj (fun e=>e) hp;have c0:(w.alloc (.cells #[.int .i64 y.1,.slice b m d] 34)).cell? ⟨p,0,none⟩=some (.int .i64 x.1):=zg o1 rfl;have c1:(w.alloc (.cells #[.int .i64 y.1,.slice b m d] 34)).cell? ⟨p,1,none⟩=some (.slice a n c):=zg o1 rfl;have K1:=zf k1;clear k1 hv hu o1 hp;generalize eqB x y=r at *;obtain ⟨op,l⟩:=x;obtain ⟨oq,k⟩:=y;simp only at SA K1 c0 c1 ⊢;go_enter Tryz.func327,Tryz.ntmps327;go_wp2_with fail;(with_reducible refine SA.out.mono ?_);rintro e w2 ⟨rfl,k2⟩;go_wp2;go_ret;exact ⟨rfl,K1.out.trans k2⟩
def zio (L:List ZE) (x:ZE):Int:=if x∈L then (L.idxOf x:Nat) else -1
set_option maxHeartbeats 1000000 in
set_option maxRecDepth 100000 in
theorem zfI (w:World) (v:Value) (x:ZE) (L:List ZE) (a:Option Addr) (n c p:Nat) (G G':Nat->Prop) (hp:w.heap[p]? = some (.cells #[.int .i64 x.1,.slice a n c] 34 (0,0))) (hv:zV w (.slice a n c) G x.2) (hL:ZG w v G' L):
  Calls Tryz.prog 326 #[v,.func (.func 327) #[] #[.pointer (some ⟨p,0,none⟩)]] w fun e w'=>e=.returned (.int .i64 (zio L x))∧Chg (fun _=>False) w w':=by
 obtain ⟨la,cap,rfl,hl0,hl1⟩:=hL.shape;have HL:=zf hL;have FI:=zf (fun w1 (k:Chg (fun _=>False) w w1) y b m d (hu:zV w1 (.slice b m d) G' y.2)=>zhb w1 x y a b n c m d p G G' (k.obj (fun e=>e) hp) (hv.chg k (fun _ _ e=>e)) hu);unfold maxLen at hl1;clear hL hv hp;go_enter Tryz.func326,Tryz.ntmps326;go_wp2;go_loopw [8] (fun iv wr=>∃ k:Nat,k<=L.length∧iv=.int .i64 k∧Hid ((∀ j,j < k->L[j]?≠some x)∧Chg (fun _=>False) w wr)) (fun iv _=>L.length - (intOf iv).toNat)
 case atStart=>exact ⟨0,by omega,rfl,zf ⟨fun j hj=>by omega,Chg.refl _ _⟩⟩
 case round=>
  obtain ⟨k,hk,rfl,HI⟩:=hrel;by_cases hlt:k < L.length
  ·obtain ⟨y,hy⟩:∃ y,L[k]? = some y:=⟨_,zlz hlt⟩
   obtain ⟨g,o,sa,sc,rfl,_,c0,c1,hs⟩:=(HL.out.chg HI.out.2 (fun _ _ e=>e)).get hy;have F:=zf (FI.out wr HI.out.2 y sa _ sc hs.at_);by_cases hxy:x=y
   ·have hb:eqB x y=true:=zlx hxy
    rw [hb] at F
    have R:=zf (show zio L x=(k:Int) by
     have:=zkj (hxy ▸ hy) HI.out.1;unfold zio;rw [if_pos this.1,this.2])
    have KC:=zf HI.out.2;clear hb hy hs FI HI hxy;obtain ⟨op,l⟩:=y;simp only at F c0 c1;go_wp2_with fail;(with_reducible refine F.out.mono ?_);rintro e w2 ⟨rfl,k2⟩;go_wp2;go_ret;exact ⟨by rw [R.out];rfl,KC.out.trans k2⟩
   ·have hb:eqB x y=false:=zly hxy
    rw [hb] at F
    have HI2:=zf (show ∀ j,j < k+1->L[j]?≠some x from fun j hj=>by
     rcases Nat.lt_or_ge j k with q | q
     ·exact HI.out.1 j q
     ·obtain rfl:j=k:=by omega
      rw [hy];exact fun e=>hxy (Option.some.inj e).symm)
    have KC:=zf HI.out.2;clear hb hy hs HI hxy;obtain ⟨op,l⟩:=y;simp only at F c0 c1;go_wp2_with fail;(with_reducible refine F.out.mono ?_);rintro e w2 ⟨rfl,k2⟩;have K2:=zf (KC.out.trans k2);clear k2;go_wp2;go_roundw
    case rel=>exact ⟨k+1,by omega,by go_num,zf ⟨HI2.out,K2.out⟩⟩
    case measure=>simp [intOf];omega
  ·obtain rfl:k=L.length:=by omega
   have R:=zf (show zio L x=-1 from if_neg (zin HI.out.1));go_wp2;go_ret;exact ⟨by rw [R.out];rfl,HI.out.2⟩
structure yO (w:World) (b:Nat) (ty:TypeId) (G:Nat->Prop) (L:List ZE) (ver:Nat):Prop where
 obj:∃ es,w.heap[b]? = some (.cells #[es,.int .i64 (ver:Int)] ty (0,0))∧ZG w es G L
 out:¬ G b
theorem yO.chg {S:Nat->Prop} {w w':World} {b:Nat} {ty:TypeId} {G:Nat->Prop} {L:List ZE} {ver:Nat} (h:yO w b ty G L ver) (hc:Chg S w w') (hb:¬ S b) (hs:∀ k,G k->¬ S k):yO w' b ty G L ver:=by
 obtain ⟨⟨es,h1,h2⟩,h3⟩:=h;exact ⟨⟨es,hc.obj hb h1,h2.chg hc hs⟩,h3⟩
theorem yO.up {w:World} {b:Nat} {ty:TypeId} {G G':Nat->Prop} {L:List ZE} {ver:Nat} (h:yO w b ty G L ver) (hg:∀ k,G k->G' k) (hb:¬ G' b):yO w b ty G' L ver:=by
 obtain ⟨⟨es,h1,h2⟩,h3⟩:=h;exact ⟨⟨es,h1,h2.up hg⟩,hb⟩
theorem yO.lt {w:World} {b:Nat} {ty:TypeId} {G:Nat->Prop} {L:List ZE} {ver:Nat} (h:yO w b ty G L ver):b < w.heap.size:=by
 obtain ⟨⟨es,h1,h2⟩,h3⟩:=h;exact zu h1
theorem yO.open {w:World} {b:Nat} {ty:TypeId} {G:Nat->Prop} {L:List ZE} {ver:Nat} (h:yO w b ty G L ver):
  ∃ la cap,w.heap[b]? = some (.cells #[.slice la L.length cap,.int .i64 (ver:Int)] ty (0,0))∧ZG w (.slice la L.length cap) G L∧L.length<=cap∧cap<=maxLen:=by
 obtain ⟨⟨es,h1,h2⟩,h3⟩:=h;obtain ⟨la,cap,rfl,q1,q2⟩:=h2.shape;exact ⟨la,cap,h1,h2,q1,q2⟩
set_option maxRecDepth 100000 in
theorem zgQ (w:World) (b:Nat) (ty:TypeId) (x:ZE) (L:List ZE) (ver:Nat) (a:Option Addr) (n c:Nat) (G G':Nat->Prop) (hl:yO w b ty G L ver) (hv:zV w (.slice a n c) G' x.2):
  Calls Tryz.prog 296 #[.pointer (some ⟨b,0,none⟩),.agg #[.int .i64 x.1,.slice a n c]] w fun e w'=>e=.returned (.int .i64 (zio L x))∧Chg (fun _=>False) w w':=by
 obtain ⟨la,cap,h1,h2,_⟩:=hl.open
 have k1:=zi (fun _=>False) w (.cells #[.int .i64 x.1,.slice a n c] 34);have IX:=zf (zfI _ _ x L a n c w.heap.size G' G (zh w (.cells #[.int .i64 x.1,.slice a n c] 34)) (hv.chg k1 (fun _ _ e=>e)) (h2.chg k1 (fun _ _ e=>e)));have K1:=zf k1;have c0:(w.alloc (.cells #[.int .i64 x.1,.slice a n c] 34)).cell? ⟨b,0,none⟩=some (.slice la L.length cap):=zg (k1.obj (fun e=>e) h1) rfl;clear k1 hl hv h1 h2;generalize zio L x=r at *;obtain ⟨op,l⟩:=x;simp only at IX K1 c0 ⊢;go_enter Tryz.func296,Tryz.ntmps296;go_wp2_with fail;(with_reducible refine IX.out.mono ?_);rintro e w2 ⟨rfl,k2⟩;go_wp2;go_ret;exact ⟨rfl,K1.out.trans k2⟩
def zkJ (e:Int) (ver:Nat):Nat:=if e=0 then ver+1 else ver
def ze1 (w:World) (b:Nat) (ty:TypeId) (G:Nat->Prop) (k:Int) (L:List ZE) (ver:Nat) (e:Ending) (w':World):Prop:=
 e=.returned (.int .i64 k)∧yO w' b ty (fun k=>G k∨(w.heap.size<=k∧k < w'.heap.size)) L (zkJ k ver)∧Chg (·=b) w w'
theorem xO {w w':World} {b:Nat} {ty:TypeId} {G:Nat->Prop} {k:Int} {L:List ZE} {ver:Nat} (hl:yO w b ty G L ver) (hk:k≠0) (hc:Chg (fun _=>False) w w'):ze1 w b ty G k L ver (.returned (.int .i64 k)) w':=by
 refine ⟨rfl,?_,hc.mono (fun _ _ e=>e.elim)⟩;unfold zkJ;rw [if_neg hk];exact (hl.chg hc (fun e=>e) (fun _ _ e=>e)).up (fun _ h=>.inl h) (fun h=>h.elim hl.out (fun h=>by have:=hl.lt;omega))
theorem zjw {L:List ZE} {x:ZE} (h:x∈L):zio L x=((L.idxOf x:Nat):Int)∧L.idxOf x < L.length∧L[L.idxOf x]? = some x:=by
 have h1:=List.idxOf_lt_length_of_mem h;exact ⟨if_pos h,h1,by rw [zlz h1,List.getElem_idxOf h1]⟩
theorem Tryz.sizeEntries:(Tryz.prog.info? 35).map (·.size)=some 1:=by kernel_rfl
set_option maxHeartbeats 4000000 in
set_option maxRecDepth 100000 in
theorem zjG (w:World) (b:Nat) (ty:TypeId) (x:ZE) (L:List ZE) (ver:Nat) (a:Option Addr) (n c:Nat) (G G':Nat->Prop) (hl:yO w b ty G L ver) (hver:ver<=1000000) (hv:yR w (.slice a n c) G' x.2):
  Calls Tryz.prog 256 #[.pointer (some ⟨b,0,none⟩),.agg #[.int .i64 x.1,.slice a n c]] w (ze1 w b ty G (zam x L) (zhy x L) ver):=by
 obtain ⟨la,cap,h1,h2,hcap,hcm⟩:=hl.open
 have hbl:=hl.lt;unfold maxLen at hcm;have k1:=zi (fun _=>False) w (.cells #[.int .i64 x.1,.slice a n c] 34);have K1:=zf k1;have MAY:=zf (ziC _ x a n c G' (hv.at_.chg k1 (fun _ _ e=>e)));have FI:=zf (fun w1 (k:Chg (fun _=>False) w w1)=>zgQ w1 b ty x L ver a n c G G' (hl.chg k (fun e=>e) (fun _ _ e=>e)) (hv.at_.chg k (fun _ _ e=>e)));have c0:(w.alloc (.cells #[.int .i64 x.1,.slice a n c] 34)).cell? ⟨b,0,none⟩=some (.slice la L.length cap):=zg (k1.obj (fun e=>e) h1) rfl;have X1:=zf (zh w (.cells #[.int .i64 x.1,.slice a n c] 34));have HL:=zf hl;have HV:=zf hv;have H1:=zf h1;have H2:=zf h2;clear k1 hl hv h1 h2;cases hm:zec x with
 | false=>
  have R:zam x L=2:=by unfold zam;rw [hm];rfl
  have RL:zhy x L=L:=by unfold zhy;rw [R];rfl
  rw [R,RL];rw [hm] at MAY;clear R RL hm FI;obtain ⟨op,l⟩:=x;simp only at MAY K1 c0 ⊢;go_enter Tryz.func256,Tryz.ntmps256;go_wp2_with fail;(with_reducible refine MAY.out.mono ?_);rintro e w2 ⟨rfl,k2⟩;go_wp2;go_ret;exact xO HL.out (by omega) (K1.out.trans k2)
 | true=>
  rw [hm] at MAY;have HM:=zf hm;clear hm;by_cases hin:x∈L
  ·have R:zam x L=11:=by unfold zam;rw [if_pos HM.out,if_pos hin]
   have RL:zhy x L=L:=by unfold zhy;rw [R];rfl
   obtain ⟨e1,e2,_⟩:=zjw hin;have g:decide (0<=zio L x)=true:=by rw [e1];exact zlx (by omega)
   rw [R,RL];clear R RL hin e1 e2;obtain ⟨op,l⟩:=x;simp only at MAY K1 c0 FI ⊢;go_enter Tryz.func256,Tryz.ntmps256;go_wp2_with fail;(with_reducible refine MAY.out.mono ?_);rintro e w2 ⟨rfl,k2⟩;have o2:=k2.obj (fun e=>e) X1.out;have d0:w2.cell? ⟨w.heap.size,0,none⟩=some (.int .i64 op):=zg o2 rfl;have d1:w2.cell? ⟨w.heap.size,1,none⟩=some (.slice a n c):=zg o2 rfl;have K2:=zf (K1.out.trans k2);have F2:=zf (FI.out w2 K2.out);clear o2 k2 K1 FI MAY;go_wp2_with fail;(with_reducible refine F2.out.mono ?_);rintro e w3 ⟨rfl,k3⟩;go_wp2;go_ret;exact xO HL.out (by omega) (K2.out.trans k3)
  ·have hi:zio L x=-1:=if_neg hin
   rw [hi] at FI;have HIN:=zf hin;clear hi hin;by_cases hmany:12<=L.length
   ·have R:zam x L=3:=by unfold zam;rw [if_pos HM.out,if_neg HIN.out,if_pos hmany]
    have RL:zhy x L=L:=by unfold zhy;rw [R];rfl
    have g:decide (12<=(L.length:Int))=true:=by rw [decide_eq_true_eq];omega
    rw [R,RL];clear R RL;obtain ⟨op,l⟩:=x;simp only at MAY K1 c0 FI ⊢;go_enter Tryz.func256,Tryz.ntmps256;go_wp2_with fail;(with_reducible refine MAY.out.mono ?_);rintro e w2 ⟨rfl,k2⟩;have o2:=k2.obj (fun e=>e) X1.out;have d0:w2.cell? ⟨w.heap.size,0,none⟩=some (.int .i64 op):=zg o2 rfl;have d1:w2.cell? ⟨w.heap.size,1,none⟩=some (.slice a n c):=zg o2 rfl;have K2:=zf (K1.out.trans k2);have F2:=zf (FI.out w2 K2.out);clear o2 k2 K1 FI MAY;go_wp2_with fail;(with_reducible refine F2.out.mono ?_);rintro e w3 ⟨rfl,k3⟩;go_wp2;go_ret;exact xO HL.out (by omega) (K2.out.trans k3)
   ·have R:zam x L=0:=by unfold zam;rw [if_pos HM.out,if_neg HIN.out,if_neg hmany]
    have RL:zhy x L=L++[x]:=by unfold zhy;rw [R];rfl
    have g:decide (12<=(L.length:Int))=false:=by rw [decide_eq_false_iff_not];omega
    obtain ⟨hs1,hs2⟩:=xY (Yj.1 HM.out).2;have hL11:L.length<=11:=by omega
    have CL:=zf (fun w1 (k:Chg (fun _=>False) w w1)=>zfT w1 x a n c G' (HV.out.chg k (fun _ _ e=>e)) hs1 (by omega))
    have SZ:=zf (show ∀ s∈x.2,s.size<=maxLen from fun s hs=>by
     obtain ⟨j,hj⟩:=List.mem_iff_getElem?.1 hs;obtain ⟨_,_,_,_,hc⟩:=HV.out.at_;obtain ⟨_,_,_,_,_,q⟩:=hc j s hj;exact q)
    rw [R,RL];clear R RL hs1 hs2 hmany
    have ENT:=zf (show ∀ W v base E,Chg (fun _=>False) w W->W.ownsRow base 29 1 v x.2.length (zO x.2)->zdn w G E L->zdn W (fun k=>G k∨(base<=k∧k < W.heap.size)) (E++[(x.1,v)]) (L++[x]) from fun W v base E hc ho hE=>
     ((hE.chg hc (fun _ _ e=>e)).up (fun _ h=>.inl h)).snoc rfl ((ya ho SZ.out).up (fun k hk=>.inr (ho.lt k hk))))
    obtain ⟨op,l⟩:=x;simp only at MAY K1 c0 FI CL ENT ⊢;go_enter Tryz.func256,Tryz.ntmps256;go_wp2_with fail;(with_reducible refine MAY.out.mono ?_);rintro e w2 ⟨rfl,k2⟩;have o2:=k2.obj (fun e=>e) X1.out;have d0:w2.cell? ⟨w.heap.size,0,none⟩=some (.int .i64 op):=zg o2 rfl;have d1:w2.cell? ⟨w.heap.size,1,none⟩=some (.slice a n c):=zg o2 rfl;have K2:=zf (K1.out.trans k2);have F2:=zf (FI.out w2 K2.out);have X2:=zf o2;clear o2 k2 K1 FI MAY;go_wp2_with fail;(with_reducible refine F2.out.mono ?_);rintro e w3 ⟨rfl,k3⟩;have K3:=zf (K2.out.trans k3);have o3:=k3.obj (fun e=>e) X2.out;have d0:w3.cell? ⟨w.heap.size,0,none⟩=some (.int .i64 op):=zg o3 rfl;have d1:w3.cell? ⟨w.heap.size,1,none⟩=some (.slice a n c):=zg o3 rfl;have c0:w3.cell? ⟨b,0,none⟩=some (.slice la L.length cap):=zg (K3.out.obj (fun e=>e) H1.out) rfl;clear o3 k3 K2 X2 F2;go_wp2_with fail;have hb3:w.heap.size<=w3.heap.size:=K3.out.size;refine Zf (N:=44) [.rd [0,1,2,3,4,5,6,7,8],.ef 9,.ef 10,.ef 11,.ef 12,.ef 13,.ef 14] 14 (fun w'=>w'.cell? ⟨b,0,none⟩=some (.slice la L.length cap)∧w'.cell? ⟨w.heap.size,0,none⟩=some (.int .i64 op)∧w'.cell? ⟨w.heap.size,1,none⟩=some (.slice a n c)) (by kernel_rfl) (by kernel_rfl) (by kernel_rfl) (by kernel_rfl) (by kernel_rfl) (Nat.le_of_ble_eq_true rfl) ⟨c0,d0,d1⟩ ?_;refine Yg (A:=?A1) ?h1 ?h2
    case h1=>
     rintro w' ⟨z0,z1,z2⟩ K hK;simp only [zS,zls,zlt,zlu,zlv,zlw]
     repeat still_step
     refine wpStill_nil ?_;exact hK
    have e0:w3.drew.cell? ⟨b,0,none⟩=some (.slice la L.length cap):=c0;have e1:w3.drew.cell? ⟨w.heap.size,0,none⟩=some (.int .i64 op):=d0;have e2:w3.drew.cell? ⟨w.heap.size,1,none⟩=some (.slice a n c):=d1;have KD:=zf (K3.out.drew);have C3:=zf (CL.out w3.drew KD.out);have hbd:w.heap.size<=w3.drew.heap.size:=hb3;clear c0 d0 d1 CL K3 hb3;generalize w3.drew=wd at *;refine zG rfl ?_;go_wp2_with fail;(with_reducible refine C3.out.mono ?_);rintro e w4 ⟨v4,rfl,o4,k4⟩;obtain ⟨a4,c4,rfl⟩:=zl o4;have K4:=zf (KD.out.trans k4);have O4:=zf o4;have f0:=zj k4 (fun e=>e) e0;have f1:=zj k4 (fun e=>e) e1;have f2:=zj k4 (fun e=>e) e2;have hb4:w.heap.size<=w4.heap.size:=K4.out.size;clear o4 k4 e0 e1 e2 C3 KD;go_wp2_with fail;refine ⟨.inr ⟨f0,f1,f2⟩,?_⟩;refine zG rfl ?_;go_wp2_with fail;have ca:=zi (fun _=>False) w4 (.cells #[.int .i64 op,.slice a4 l.length c4] 34);have e0:=zj ca (fun e=>e) f0;have e1:=zj ca (fun e=>e) f1;have e2:=zj ca (fun e=>e) f2;refine ⟨.inr ⟨e0,e1,e2⟩,?_⟩;have K5:=zf (K4.out.trans ca);have B5:=zf (zh w4 (.cells #[.int .i64 op,.slice a4 l.length c4] 34));have O5:=zf (zo O4.out ca (fun _ _ e=>e))
    obtain ⟨EN,hEN⟩:∃ E,E.length=L.length∧zdn w G E L∧(la=none->L.length=0)∧∀ (j:Nat) u,(ZB E)[j]? = some u->∃ lb lo,la=some ⟨lb,lo,none⟩∧w.cell? ⟨lb,lo+j,none⟩=some u:=by
     obtain ⟨E,la',cap',e,q1,q2,q3,q4,q5⟩:=H2.out;cases e;exact ⟨E,q4.len,q4,fun e=>by have:=q3 e;omega,fun j u hj=>by obtain ⟨lb,lo,r1,_,r2⟩:=q5 j u hj;exact ⟨lb,lo,r1,r2⟩⟩
    have HEN:=zf hEN;clear hEN f0 f1 f2 ca K4 O4;refine zG rfl ?_
    refine zcr rfl (.tmp 30) (.tmp 33) 35 rfl 34 2 32 Tryz.underlying35 Tryz.elemEntry la L.length (ZB EN) rfl (by rw [YN,HEN.out.1]) (fun j u hj=>by obtain ⟨lb,lo,r1,r2⟩:=HEN.out.2.2.2 j u hj;exact ⟨lb,lo,r1,zj K5.out (fun e=>e) r2⟩) HEN.out.2.2.1 w4.heap.size 0 1 1 [.int .i64 op,.slice a4 l.length c4] rfl rfl (fun j u hj=>by rw [Nat.zero_add];exact zg B5.out (by simpa using hj)) (by omega) (by
      intro u hu;rcases zlL.1 hu with q | q
      ·exact zfU HEN.out.2.1.one u q
      ·simp at q
       rcases q with rfl | rfl <;> rfl) (by omega) (by unfold maxLen;omega) ?_
    intro v6 w6 o6 k6 hs6;have e0:=zj k6 (fun e=>e) e0;have e1:=zj k6 (fun e=>e) e1;have e2:=zj k6 (fun e=>e) e2;obtain ⟨a6,c6,rfl⟩:=zl o6
    have o6b:w6.ownsRow w4.heap.size 34 2 (.slice a6 (L.length+1) c6) (EN++[(op,Value.slice a4 l.length c4)]).length (ZB (EN++[(op,Value.slice a4 l.length c4)])):=by
     rw [Xp,zlC,HEN.out.1];exact YK o6 (by simp)
    have en6:=ENT.out w6 _ _ EN (K5.out.trans k6) (zo O5.out k6 (fun _ _ e=>e)) HEN.out.2.1;have O6:=zf o6b;have EN6:=zf en6;have K6:=zf (K5.out.trans k6);have hb6:w4.heap.size<=w6.heap.size:=by simp at hs6;omega
    have B6:=zf (K6.out.obj (fun e=>e) H1.out);clear o6 o6b en6 k6 hs6 K5 O5 B5 HEN ENT;go_wp2_with fail;refine ⟨.inr ⟨e0,e1,e2⟩,?_⟩;refine zG rfl ?_;go_wp2_with fail;refine ⟨.inr ⟨e0,e1,e2⟩,?_⟩;refine zG rfl ?_;go_wp2_with fail;refine ⟨.inr ⟨e0,e1,e2⟩,?_⟩;refine zG rfl ?_;refine Zw rfl 35 (.tmp 36) (.tmp 34) rfl b 0 rfl (.slice a6 (L.length+1) c6) rfl rfl rfl Tryz.sizeEntries _ e0 (zk B6.out) ?_;intro w7 hw7;refine ⟨.inl rfl,ZM ?_⟩;have o7:w7.heap[b]? = some (.cells #[.slice a6 (L.length+1) c6,.int .i64 (ver:Int)] ty (0,0)):=by rw [hw7];exact zq B6.out _
    have k7:Chg (·=b) w6 w7:=by rw [hw7];exact zA _ _ _ _
    have d1:w7.cell? ⟨b,1,none⟩=some (.int .i64 (ver:Int)):=zg o7 rfl;have fz1:w7.frozen? ⟨b,1,none⟩=false:=zk o7
    have FIN:=zf (show ze1 w b ty G 0 (L++[(op,l)]) ver (.returned (.int .i64 0)) (w7.setCell ⟨b,1,none⟩ (.int .i64 ((ver:Int)+1))) from by
     have k8:=k7.trans (zA w7 b 1 (.int .i64 ((ver:Int)+1)));have hw8:(w7.setCell ⟨b,1,none⟩ (.int .i64 ((ver:Int)+1))).heap.size=w6.heap.size:=by rw [hw7];simp [World.setCell]
     refine ⟨rfl,⟨⟨_,zq (o:=1) o7 _,?_⟩,?_⟩,(K6.out.mono (fun _ _ e=>e.elim)).next k8 (fun k hk e=>e)⟩
     ·have hnb:∀ k,(G k∨(w.heap.size<=k∧k < w6.heap.size))->¬ k=b:=fun k h e=>by
       rcases h with h | h
       ·exact HL.out.out (e ▸ h)
       ·omega
      refine ZG.chg (S:=(·=b)) (w:=w6) ?_ k8 ?_
      ·rw [hw8]
       exact zbx (G:=fun k=>G k∨(w.heap.size<=k∧k < w6.heap.size)) O6.out (EN6.out.up (fun k h=>h.imp id (fun h=>by omega))) (fun k hk=>.inr (by have:=O6.out.lt k hk;omega))
      ·rw [hw8];exact hnb
     ·intro h
      rcases h with h | h
      ·exact HL.out.out h
      ·omega)
    clear o7 k7 hw7 e0 e1 e2 O6 EN6 K6 B6;go_wp2;go_ret;exact FIN.out
def zk4 (w w':World) (b:Nat) (k:Nat):Prop:=w.heap.size<=k∧k < w'.heap.size∧k≠b
def zhH (w:World) (ty:TypeId) (l:List ZE) (e:Ending) (w':World):Prop:=
 (za3 [] l=0->∃ b,e=.returned (.tuple #[.pointer (some ⟨b,0,none⟩),.int .i64 0])∧w.heap.size<=b∧yO w' b ty (zk4 w w' b) l 0) ∧
 (za3 [] l≠0->e=.returned (.tuple #[.pointer none,.int .i64 (za3 [] l)]))∧Chg (fun _=>False) w w'
structure zdm (w:World) (ty:TypeId) (l:List ZE) (k:Nat) (wr:World):Prop where
 lst:yO wr w.heap.size ty (zk4 w wr w.heap.size) (l.take k) k
 chg:Chg (fun _=>False) w wr
 err:za3 [] l=za3 (l.take k) (l.drop k)
theorem zdX (w:World) (ty:TypeId) (l:List ZE):zdm w ty l 0 (w.alloc (.cells #[.slice none 0 0,.int .i64 0] ty)):=
 ⟨⟨⟨_,zh w _,by rw [List.take_zero];exact zby _ _⟩,fun h=>h.2.2 rfl⟩,zi _ _ _,by rw [List.take_zero,List.drop_zero]⟩
theorem zdm.next {w wr w':World} {ty:TypeId} {l:List ZE} {k:Nat} {x:ZE} {e:Ending} (h:zdm w ty l k wr) (hx:l[k]? = some x) (h0:zam x (l.take k)=0) (hc:Chg (fun _=>False) wr w') {w2:World} (hr:ze1 w' w.heap.size ty (zk4 w wr w.heap.size) (zam x (l.take k)) (zhy x (l.take k)) k e w2):zdm w ty l (k+1) w2:=by
 obtain ⟨_,h2,h3⟩:=hr;have hw:=h.lst.lt;have hw2:=hc.size;have hw3:=h3.size;have hs:=h.chg.size;refine ⟨?_,(h.chg.trans hc).next h3 (fun k hk e=>by omega),?_⟩
 ·unfold zhy zkJ at h2
  rw [if_pos h0,if_pos h0] at h2;rw [show l.take (k+1)=l.take k++[x] by rw [zlR,hx];rfl];refine h2.up (fun q hq=>?_) (fun h=>h.2.2 rfl);rcases hq with ⟨q1,q2,q3⟩ | hq
  ·exact ⟨q1,by omega,q3⟩
  ·exact ⟨by omega,hq.2,by omega⟩
 ·rw [h.err,zcT hx,if_pos h0]
theorem zdm.err_of {w wr:World} {ty:TypeId} {l:List ZE} {k:Nat} {x:ZE} (h:zdm w ty l k wr) (hx:l[k]? = some x) (h0:zam x (l.take k)≠0):za3 [] l=zam x (l.take k):=by
 rw [h.err,zcT hx,if_neg h0]
theorem zfC {w w' w2:World} {ty:TypeId} {l:List ZE} {k:Int} (he:za3 [] l=k) (hk:k≠0) (hc:Chg (fun _=>False) w w') (hc2:Chg (fun x=>w.heap.size<=x) w' w2):zhH w ty l (.returned (.tuple #[.pointer none,.int .i64 k])) w2:=
 ⟨fun h=>absurd (he ▸ h) hk,fun _=>by rw [he],hc.next hc2 (fun x hx e=>by omega)⟩
theorem zdW {w wr:World} {ty:TypeId} {l:List ZE} (h:zdm w ty l l.length wr):zhH w ty l (.returned (.tuple #[.pointer (some ⟨w.heap.size,0,none⟩),.int .i64 0])) (wr.setCell ⟨w.heap.size,1,none⟩ (.int .i64 0)):=by
 have he:=h.err;rw [List.drop_length] at he;have hl:=h.lst;rw [zlT] at hl;obtain ⟨⟨es,h1,h2⟩,h3⟩:=hl;have k8:=zA wr w.heap.size 1 (.int .i64 0);have hsz:(wr.setCell ⟨w.heap.size,1,none⟩ (.int .i64 0)).heap.size=wr.heap.size:=by simp [World.setCell]
 refine ⟨fun _=>⟨_,rfl,zlS _,⟨⟨es,zq (o:=1) h1 _,?_⟩,fun h=>h.2.2 rfl⟩⟩,fun h=>absurd he h,h.chg.next k8 (fun x hx e=>by omega)⟩;refine (h2.chg k8 (fun k hk e=>hk.2.2 e)).up (fun k hk=>⟨hk.1,by rw [hsz];exact hk.2.1,hk.2.2⟩)
set_option maxHeartbeats 2000000 in
set_option maxRecDepth 100000 in
theorem zie (w:World) (v:Value) (l:List ZE) (G:Nat->Prop) (hl:ZG w v G l) (hlen:l.length<=1000):
  Calls Tryz.prog 206 #[v] w (zhH w 362 l):=by
 obtain ⟨la,cap,rfl,hcap,hcm⟩:=hl.shape;have HL:=zf hl;clear hl;unfold maxLen at hcm;go_enter Tryz.func206,Tryz.ntmps206;go_wp2;go_loopw [12] (fun iv wr=>∃ (k:Nat),k<=l.length∧iv=.int .i64 k∧Hid (zdm w 362 l k wr)) (fun iv _=>l.length - (intOf iv).toNat)
 case atStart=>exact ⟨0,by omega,rfl,zf (zdX _ _ _)⟩
 case round=>
  obtain ⟨k,hk,rfl,HI⟩:=hrel;have hwb:=HI.out.lst.lt;by_cases hlt:k < l.length
  ·obtain ⟨x,hx⟩:∃ x,l[k]? = some x:=⟨_,zlz hlt⟩
   obtain ⟨g,o,sa,sc,rfl,_,d0,d1,hs⟩:=(HL.out.chg HI.out.chg (fun _ _ e=>e)).get hx;have ka:=zi (fun _=>False) wr (.cells #[.int .i64 x.1,.slice sa x.2.length sc] 34);have AD:=zf (zjG (wr.alloc (.cells #[.int .i64 x.1,.slice sa x.2.length sc] 34)) w.heap.size 362 x (l.take k) k sa x.2.length sc _ G (HI.out.lst.chg ka (fun e=>e) (fun _ _ e=>e)) (by omega) (hs.chg ka (fun _ _ e=>e)));have NX:=zf (fun h0 w2 e hr=>HI.out.next (e:=e) hx h0 ka (w2:=w2) hr);have ER:=zf (fun h0=>HI.out.err_of hx h0);have KC:=zf (HI.out.chg.trans ka);have hb1:=HI.out.chg.size;clear HI hs hx ka;generalize hk:zam x (l.take k)=ek at *;have HEK:=zf hk;obtain ⟨op,ls⟩:=x;simp only at d0 d1 AD NX;by_cases h0:ek=0
   ·have NX2:=zf (NX.out h0)
    subst h0;clear NX ER hk;go_wp2_with fail;(with_reducible refine AD.out.mono ?_);rintro e w4 hr;have N4:=zf (NX2.out w4 e hr);obtain ⟨rfl,_,_⟩:=hr;clear AD NX2;go_wp2;go_roundw
    case rel=>exact ⟨k+1,by omega,by go_num,N4⟩
    case measure=>simp [intOf];omega
   ·have ER2:=zf (ER.out h0)
    have g1:(ek != 0)=true:=by rw [zlN];exact h0
    have g2:(ek == 0)=false:=by rw [zlI];exact h0
    have H0:=zf h0;clear NX ER h0 hk;go_wp2_with fail;(with_reducible refine AD.out.mono ?_);rintro e w4 ⟨rfl,_,k4⟩;have K4:=zf k4;clear k4 AD;go_wp2;go_ret2;exact zfC ER2.out H0.out KC.out (K4.out.mono (fun x _ e=>by omega))
  ·obtain rfl:k=l.length:=by omega
   obtain ⟨⟨es,h1,h2⟩,h3⟩:=HI.out.lst;have f1:=zk (o:=1) h1;have c1:wr.cell? ⟨w.heap.size,1,none⟩=some (.int .i64 (l.length:Int)):=zg h1 rfl;have FIN:=zf (zdW HI.out);clear HI h1 h2 h3;go_wp2;go_ret2;exact FIN.out
end Go.Proofs.YtcilaocknhphnaaGreat
