/-
  Package node: names and keys; certificates that are signed, believed, told. Package node, in plain Lean: the certificates that a node signs itself. A region that draws its order, walked by an invariant: what holds when some operations are done, whichever came first. Operations in an act that is not written out: a value, a call, an append. A region that draws its order and whose operations, but for the last, make new memory alone: each operation walked once, whichever came first. Operations in an act that is not written out, one by one.
-/
import Derived.Test.YtcilaocknhphnaaGreatZgRBase
import Derived.Test.YtcilaocknhphnaaGreatZgCSet
import Derived.Test.YtcilaocknhphnaaGreatZgNBook3
import Derived.Test.YtcilaocknhphnaaGreatZgNLet3
import Derived.Test.YtcilaocknhphnaaGreatZgTAt
import Derived.Test.YtcilaocknhphnaaGreatZgTCerts
import Derived.Test.YtcilaocknhphnaaGreatZgKit2
namespace Go.Proofs.YtcilaocknhphnaaGreat
open Go.RowKit Go.Maps
theorem zit (w:World) (i:Nat) (hi:i < 3):Calls Tryz.prog 64 #[.int .i64 (i:Int)] w fun e w'=>e=.returned (.int .u16 ((8193+i:Nat):Int))∧w=w':=by
 have e2:IntKind.i64.wrap (8193+(i:Int))=8193+(i:Int):=by rw [IntKind.wrap_i64];omega
 have e5:IntKind.u16.wrap (8193+(i:Int))=((8193+i:Nat):Int):=by rw [IntKind.wrap_u16];omega
 go_enter Tryz.func64,Tryz.ntmps64;go_wp2;go_ret;exact ⟨rfl,rfl⟩
theorem zdT (w:World) (i b:Nat) (hi:i < 3) (hb:b < 50):Calls Tryz.prog 63 #[.int .i64 (i:Int),.int .i64 (b:Int)] w fun e w'=>e=.returned (.int .u16 ((8292+50*i+b:Nat):Int))∧w=w':=by
 have e1:IntKind.i64.wrap (50*(i:Int))=50*(i:Int):=by rw [IntKind.wrap_i64];omega
 have e2:IntKind.i64.wrap (8292+50*(i:Int))=8292+50*(i:Int):=by rw [IntKind.wrap_i64];omega
 have e3:IntKind.i64.wrap (b:Int)=(b:Int):=by rw [IntKind.wrap_i64];omega
 have e4:IntKind.i64.wrap (8292+50*(i:Int)+(b:Int))=8292+50*(i:Int)+(b:Int):=by rw [IntKind.wrap_i64];omega
 have e5:IntKind.u16.wrap (8292+50*(i:Int)+(b:Int))=((8292+50*i+b:Nat):Int):=by rw [IntKind.wrap_u16];omega
 go_enter Tryz.func63,Tryz.ntmps63;go_wp2;go_ret;exact ⟨rfl,rfl⟩
theorem zdQ (w:World) (i b k:Nat) (hi:i < 3) (hb:b < 41) (hk:k < 50):Calls Tryz.prog 70 #[.int .i64 (i:Int),.int .i64 (b:Int),.int .i64 (k:Int)] w fun e w'=>e=.returned (.int .u16 ((16385+50*(41*i+b)+k:Nat):Int))∧w=w':=by
 have e1:IntKind.i64.wrap (41*(i:Int))=41*(i:Int):=by rw [IntKind.wrap_i64];omega
 have e2:IntKind.i64.wrap (41*(i:Int)+(b:Int))=41*(i:Int)+(b:Int):=by rw [IntKind.wrap_i64];omega
 have e3:IntKind.i64.wrap (50*(41*(i:Int)+(b:Int)))=50*(41*(i:Int)+(b:Int)):=by rw [IntKind.wrap_i64];omega
 have e4:IntKind.i64.wrap (16385+50*(41*(i:Int)+(b:Int)))=16385+50*(41*(i:Int)+(b:Int)):=by rw [IntKind.wrap_i64];omega
 have e5:IntKind.i64.wrap (16385+50*(41*(i:Int)+(b:Int))+(k:Int))=16385+50*(41*(i:Int)+(b:Int))+(k:Int):=by rw [IntKind.wrap_i64];omega
 have e6:IntKind.u16.wrap (16385+50*(41*(i:Int)+(b:Int))+(k:Int))=((16385+50*(41*i+b)+k:Nat):Int):=by rw [IntKind.wrap_u16];omega
 have e7:IntKind.i64.wrap (b:Int)=(b:Int):=by rw [IntKind.wrap_i64];omega
 go_enter Tryz.func70,Tryz.ntmps70;go_wp2;go_ret;exact ⟨rfl,rfl⟩
theorem Xr {s t:ByteArray} (h:Ev.codes s=Ev.codes t):s=t:=by
 obtain ⟨⟨l⟩⟩:=s;obtain ⟨⟨m⟩⟩:=t;unfold Ev.codes at h;simp only at h
 have:l=m:=by
  have inj:∀ (x y:List UInt8),x.map UInt8.toNat=y.map UInt8.toNat->x=y:=fun x=>by
   induction x with
   | nil=>intro y h;cases y <;> simp at h ⊢
   | cons a x ih=>
    intro y h;cases y with
    | nil=>simp at h
    | cons b y=>
     simp only [List.map_cons,List.cons.injEq] at h;rw [UInt8.toNat_inj.1 h.1,ih y h.2]
  exact inj l m h
 subst this;rfl
def yZ (i:Nat):ByteArray:=⟨#[96,UInt8.ofNat (1+i),160,1]⟩
def zfc:Ev.V2->Option (List Nat)
  | .one (.str l) _=>some l
  | _=>none
theorem zgg {r:Ev.V2} {l:List Nat} (h:zfc r=some l):r.all fun v _=>v=.str l:=by
 unfold zfc at h;split at h
 ·cases h;rfl
 ·cases h
theorem zd2:zfc (zc6 Tryz.prog [66] [.int .i64 0] Ev.H0)=some [96,1,160,1]:=by kernel_rfl
theorem zd1:zfc (zc6 Tryz.prog [66] [.int .i64 1] Ev.H0)=some [96,2,160,1]:=by kernel_rfl
theorem zd0:zfc (zc6 Tryz.prog [66] [.int .i64 2] Ev.H0)=some [96,3,160,1]:=by kernel_rfl
theorem zhc {w:World} {f:FuncId} {i:Int} {s:ByteArray} (h:zfc (zc6 Tryz.prog [f] [.int .i64 i] Ev.H0)=some (Ev.codes s)):Calls Tryz.prog f #[.int .i64 i] w fun e w'=>e=.returned (.string s)∧Chg (fun _=>False) w w':=by
 refine (Ev.eval_ok zbt zbr (qs:=[239,280]) (n:=100) (φ:=fun _=>none) (h:=Ev.H0) (args:=[.int .i64 i]) (A:=#[.int .i64 i]) (.cons (Ev.RelB.toT (.int _ _)) .nil) (Ev.rel_H0 w) (zgg h)).mono ?_;rintro e w' ⟨v,h',ψ,cv,rfl,rfl,ht,_,hs⟩;refine ⟨?_,(zkW hs.ch).mono (fun k _ ⟨_,_,_,e,_⟩=>by cases e)⟩;cases ht with
 | one ht=>cases ht with
  | val ht=>cases ht with
   | cell ht=>cases ht with
    | base ht=>
     generalize hc:Ev.codes s=c at ht;cases ht with
     | str t=>rw [Xr hc]
theorem zcV (w:World) (i:Nat) (hi:i < 3):Calls Tryz.prog 66 #[.int .i64 (i:Int)] w fun e w'=>e=.returned (.string (yZ i))∧Chg (fun _=>False) w w':=by
 rcases (by omega:i=0∨i=1∨i=2) with rfl | rfl | rfl
 ·exact zhc zd2
 ·exact zhc zd1
 ·exact zhc zd0
structure zjV (w:World) (t g:Nat):Prop where
  obj:w.heap[t]? = some (.cells #[.int .i64 8,.slice none 0 0,.map (some g)] 277 (0,0))
  map:yC Tryz.prog 58 w g 0 (fun _=>none)
theorem zjV.chg {S:Nat->Prop} {w w':World} {t g:Nat} (h:zjV w t g) (hc:Chg S w w') (h1:¬ S t) (h2:¬ S g):zjV w' t g:=⟨hc.obj h1 h.obj,h.map.chg hc h2⟩
theorem zej (w:World):Calls Tryz.prog 61 #[.int .i64 8] w fun e w'=>e=.returned (.pointer (some ⟨w.heap.size+1,0,none⟩))∧zjV w' (w.heap.size+1) w.heap.size∧Chg (fun _=>False) w w'∧w'.heap.size=w.heap.size+2:=by
 have MKM:=fun (w:World)=>run_makeMap (P:=Tryz.prog) 146 w;have ka:=zi (fun _=>False) w (.map #[] 0);have kb:=zi (fun _=>False) (w.alloc (.map #[] 0)) (.cells #[.int .i64 8,.slice none 0 0,.map (some w.heap.size)] 277);have ob:=zh (w.alloc (.map #[] 0)) (.cells #[.int .i64 8,.slice none 0 0,.map (some w.heap.size)] 277);rw [zlH] at ob;have zs:((w.alloc (.map #[] 0)).alloc (.cells #[.int .i64 8,.slice none 0 0,.map (some w.heap.size)] 277)).heap.size=w.heap.size+2:=by rw [zlH,zlH]
 have FIN:=zf (And.intro (zjV.mk ob ((yC.made Tryz.prog 58 w).chg kb (fun e=>e))) (And.intro (ka.trans kb) zs));clear ka kb ob zs;go_enter Tryz.func61,Tryz.ntmps61;go_wp2;go_ret;exact ⟨rfl,FIN.out⟩
theorem zdd (w:World):Calls Tryz.prog 62 #[.int .i64 40] w fun e w'=>e=.returned (.pointer (some ⟨w.heap.size+1,0,none⟩))∧Chg (fun _=>False) w w'∧w'.heap.size=w.heap.size+2:=by
 have MKM:=fun (w:World)=>run_makeMap (P:=Tryz.prog) 278 w;have ka:=zi (fun _=>False) w (.map #[] 0);have kb:=zi (fun _=>False) (w.alloc (.map #[] 0)) (.cells #[.int .i64 40,.int .i64 0,.map (some w.heap.size)] 280);have zs:((w.alloc (.map #[] 0)).alloc (.cells #[.int .i64 40,.int .i64 0,.map (some w.heap.size)] 280)).heap.size=w.heap.size+2:=by rw [zlH,zlH]
 have FIN:=zf (And.intro (ka.trans kb) zs);clear ka kb zs;go_enter Tryz.func62,Tryz.ntmps62;go_wp2;go_ret;exact ⟨rfl,FIN.out⟩
def XD (c:zF):ByteArray:=⟨(Zk c).toArray⟩
theorem zbE {c:zF} (h:Zj c=true):(XD c).size<=1000000:=by
 have:=Yl h;unfold XD;simp [ByteArray.size];omega
theorem yD.up {w w':World} {b:Nat} {B B1:Nat->Prop} {L:List (Nat × ByteArray)} {M:List yB} (h:yD w b B1 L M w') (hb:∀ k,B1 k->B k):yD w b B L M w':=by
 obtain ⟨B',r1,r2,r3⟩:=h;exact ⟨B',r1,r2.mono (fun k _ e=>hb k e),fun k e=>(r3 k e).imp (hb k) id⟩
theorem yD.from {w w1 w':World} {b:Nat} {B:Nat->Prop} {L:List (Nat × ByteArray)} {M:List yB} (k:Chg (fun _=>False) w w1) (r:yD w1 b B L M w'):yD w b B L M w':=by
 obtain ⟨B',r1,r2,r3⟩:=r;exact ⟨B',r1,(k.mono (fun _ _ e=>e.elim)).trans r2,fun j e=>(r3 j e).imp id (fun q=>⟨Nat.le_trans k.size q.1,q.2⟩)⟩
set_option maxHeartbeats 1000000 in
set_option maxRecDepth 100000 in
theorem zcR (w:World) (n b:Nat) (B:Nat->Prop) (L:List (Nat × ByteArray)) (M:List yB) (c:zF) (sa:Option Addr) (sc:Nat) (G:Nat->Prop) (hn:w.cell? ⟨n,8,none⟩=some (.pointer (some ⟨b,0,none⟩))) (h:ZD w b B L M) (hnB:¬ B n) (hc:ZW w (.slice sa c.fr.length sc) G c) (hG:∀ k,G k->k < w.heap.size) (hcb:Zj c=true) (hl:L.length<=100000):
  Calls Tryz.prog 67 #[.pointer (some ⟨n,0,none⟩),Zn c (.slice sa c.fr.length sc)] w fun e w'=>e=.returned (.tuple #[])∧yD w b B (yG L (c.sg,XD c)) M w':=by
 obtain ⟨B0,hB0⟩:∃ B0:Nat->Prop,B0=fun k=>B k∧k < w.heap.size:=⟨_,rfl⟩;have h0:ZD w b B0 L M:=h.to (fun k hk e=>by rw [hB0];exact ⟨e,hk⟩);have HB0:=zf (show ∀ k,B0 k->B k from fun k e=>by rw [hB0] at e;exact e.1);have nb1:¬ B0 n:=fun e=>hnB (HB0.out n e);have nb2:¬ B0 w.heap.size:=fun e=>by rw [hB0] at e;have:=e.2;omega
 have ka:=zi (fun _=>False) w (.cells #[.int .i64 c.kind,.int .u16 (c.sg:Int),.string c.sp,.slice sa c.fr.length sc,.int .i64 c.f,.int .i64 c.t,.int .i64 c.n] 103);have oa:=zh w (.cells #[.int .i64 c.kind,.int .u16 (c.sg:Int),.string c.sp,.slice sa c.fr.length sc,.int .i64 c.f,.int .i64 c.t,.int .i64 c.n] 103);have EN:=xt _ c sa sc G (hc.chg ka (fun _ _ e=>e)) (fun k e=>by have:=hG k e;have:=ka.size;omega);rw [hcb] at EN;have SG:=zf (fun w' (k:Chg (fun _=>False) w w')=>zhr w' b B0 L M c.sg (XD c) (h0.chg k (fun _ _ e=>e)) (ZO hcb).sg (zbE hcb) hl);have d1:=zg (o:=1) oa rfl;have n1:=zj ka (fun e=>e) hn;have K1:=zf ka;clear ka oa hc hn h h0 hB0;generalize yG L (c.sg,XD c)=L' at *;unfold Zn XX XD at *;have EN:=zf EN;generalize Zk c=ce at *;obtain ⟨kind,sg,sp,fr,f,t,m⟩:=c;simp only at *;go_enter Tryz.func67,Tryz.ntmps67;go_wp2_with fail;(with_reducible refine EN.out.mono ?_);rintro e w1 ⟨(⟨_,rfl⟩ | ⟨q,_⟩),k1⟩
 rotate_left
 ·cases q
 have K2:=zf (K1.out.trans k1);have d1:=zj k1 (fun e=>e) d1;have n1:=zj k1 (fun e=>e) n1;clear k1 K1 EN;go_wp2_with fail;refine zC (N:=22) [.rd [0,1,2,3,4,5,6,7],.ef 8] (fun W=>W.cell? ⟨n,8,none⟩=some (.pointer (some ⟨b,0,none⟩))∧W.cell? ⟨w.heap.size,1,none⟩=some (.int .u16 (sg:Int))) (by kernel_rfl) (by kernel_rfl) (by kernel_rfl) (by kernel_rfl) (Nat.le_of_ble_eq_true rfl) ⟨n1,d1⟩ ?_;refine zJ (A:=?A1) ?h1 ?h2
 case h1=>
  rintro w' ⟨y0,y1⟩ K hK;simp only [zS,zls,zlt,zlu,zlv,zlw]
  repeat still_step
  refine wpStill_nil ?_;exact hK
 have KD:=zf K2.out.drew;have n2:=zj (zy (fun _=>False) w1) (fun e=>e) n1;have d2:=zj (zy (fun _=>False) w1) (fun e=>e) d1;have SG2:=zf (SG.out _ KD.out);clear d1 n1 K2 SG;generalize w1.drew=w2 at *;refine zQ rfl ?_;go_wp2_with fail;(with_reducible refine SG2.out.mono ?_);rintro e w3 ⟨z,rfl,r⟩;have FIN:=zf ((yD.from KD.out r).up HB0.out);obtain ⟨_,_,kr,_⟩:=r;have n3:=zj kr nb1 n2;have d3:=zj kr nb2 d2;clear SG2 KD kr;go_wp2_with fail;refine ⟨⟨n3,d3⟩,Za ?_⟩;go_wp2;go_end0;exact ⟨rfl,FIN.out⟩
def zdB (L:List (Nat × ByteArray)) (c:zF):Bool:=Zj c && decide ((c.sg,XD c)∈L)
set_option maxHeartbeats 1000000 in
set_option maxRecDepth 100000 in
theorem zcU (w:World) (n b sb:Nat) (B SB:Nat->Prop) (L:List (Nat × ByteArray)) (M:List yB) (s:zB) (c:zF) (sa:Option Addr) (sc:Nat) (G:Nat->Prop) (hn:w.cell? ⟨n,8,none⟩=some (.pointer (some ⟨b,0,none⟩))) (hs0:w.cell? ⟨n,0,none⟩=some (.pointer (some ⟨sb,0,none⟩))) (h:ZD w b B L M) (hs:Zz w sb SB s) (hnS:¬ SB n) (hc:ZW w (.slice sa c.fr.length sc) G c) (hG:∀ k,G k->k < w.heap.size∧¬ SB k) (hnx:s.next<=1000000) (htn:s.turn<=1000000):
  Calls Tryz.prog 68 #[.pointer (some ⟨n,0,none⟩),Zn c (.slice sa c.fr.length sc)] w fun e w'=>e=.returned (.bool (zdB L c))∧∃ SB',Zz w' sb SB' (if zdB L c=true then (zfq s c).2.2 else s)∧Chg SB w w'∧∀ k,SB' k->SB k∨w.heap.size<=k:=by
 have hSB:=zf (fun k (e:SB k)=>hs.lt e);have nb2:¬ SB w.heap.size:=fun e=>by have:=hSB.out _ e;omega
 have ka:=zi (fun _=>False) w (.cells #[.int .i64 c.kind,.int .u16 (c.sg:Int),.string c.sp,.slice sa c.fr.length sc,.int .i64 c.f,.int .i64 c.t,.int .i64 c.n] 103);have oa:=zh w (.cells #[.int .i64 c.kind,.int .u16 (c.sg:Int),.string c.sp,.slice sa c.fr.length sc,.int .i64 c.f,.int .i64 c.t,.int .i64 c.n] 103);have EN:=xt _ c sa sc G (hc.chg ka (fun _ _ e=>e)) (fun k e=>by have:=(hG k e).1;have:=ka.size;omega);have SG:=zf (fun w' (k:Chg (fun _=>False) w w') (q:Zj c=true)=>zem w' b B L M c.sg (XD c) (h.chg k (fun _ _ e=>e)) hc.sg (zbE q));have PU:=zew;have PU:=zf (fun w' (k:Chg (fun _=>False) w w')=>zew w' sb SB s c sa sc G (hs.chg k (fun _ _ e=>e)) (hc.chg k (fun _ _ e=>e)) (fun j e=>⟨by have:=(hG j e).1;have:=k.size;omega,(hG j e).2⟩) hnx htn);have SAME:=zf (fun (w':World) (k:Chg (fun _=>False) w w')=>(⟨SB,hs.chg k (fun _ _ e=>e),k.mono (fun _ _ e=>e.elim),fun _ q=>.inl q⟩:∃ SB',Zz w' sb SB' s∧Chg SB w w'∧∀ j,SB' j->SB j∨w.heap.size<=j));have OA:=zf oa;have d1:=zg (o:=1) oa rfl;have n1:=zj ka (fun e=>e) hn;have n0:=zj ka (fun e=>e) hs0;have K1:=zf ka;clear ka oa hc hn h hs hG hs0;unfold zdB;generalize hR:(zfq s c)=res at *;clear hR;unfold Zn XX XD zi5 at *;have EN:=zf EN;generalize Zk c=ce at *;generalize hcb:Zj c=cb at *;clear hcb;obtain ⟨kind,sg,sp,fr,f,t,m⟩:=c;simp only at *;generalize decide ((sg,(⟨ce.toArray⟩:ByteArray))∈L)=sb0 at *;go_enter Tryz.func68,Tryz.ntmps68;go_wp2_with fail;(with_reducible refine EN.out.mono ?_);rintro e w1 ⟨(⟨rfl,rfl⟩ | ⟨rfl,z,hz,rfl⟩),k1⟩
 rotate_left
 ·have K2:=zf (K1.out.trans k1)
  have g1:decide (z=0)=false:=zly hz;have g2:(z != 0)=true:=by simpa using hz
  have d1:=zj k1 (fun e=>e) d1;have n1:=zj k1 (fun e=>e) n1;clear k1 K1 EN SG PU;go_wp2_with fail;refine zC (N:=33) [.rd [0,1,2,3,4,5,6,7,8,9,10],.ef 11,.rd [12,13]] (fun _=>True) (by kernel_rfl) (by kernel_rfl) (by kernel_rfl) (by kernel_rfl) (Nat.le_of_ble_eq_true rfl) trivial ?_;refine zJ (A:=?A1) ?h1a ?h1b
  case h1a=>
   rintro w' _ K hK;simp only [zS,zls,zlt,zlu,zlv,zlw];refine WS.out ?_
   repeat (refine Zd (fun K hK=>?_);go_simp;refine hK _ ?_;clear hK K)
   refine Zv ?_;exact hK
  have KD:=zf K2.out.drew;clear d1 n1 K2;generalize w1.drew=w2 at *;refine zQ rfl ?_;refine YC (by simp [Region.wanted,yielded,undef]) ?_;refine ⟨trivial,?_⟩;refine zJ (A:=?A2) ?h2a ?h2b
  case h2a=>
   rintro w' _ K hK;simp only [zS,zls,zlt,zlu,zlv,zlw];refine WS.out ?_
   repeat (refine Zd (fun K hK=>?_);go_simp;refine hK _ ?_;clear hK K)
   refine Zv ?_;exact hK
  refine Za ?_;go_wp2;go_ret;exact ⟨rfl,SAME.out _ KD.out⟩
 have K2:=zf (K1.out.trans k1);have d1:=zj k1 (fun e=>e) d1;have n1:=zj k1 (fun e=>e) n1;have n0:=zj k1 (fun e=>e) n0;have O2:=zf (k1.obj (fun e=>e) OA.out);clear k1 K1 EN OA;go_wp2_with fail;refine zC (N:=33) [.rd [0,1,2,3,4,5,6,7,8,9,10],.ef 11,.rd [12,13]] (fun W=>W.cell? ⟨n,8,none⟩=some (.pointer (some ⟨b,0,none⟩))∧W.cell? ⟨w.heap.size,1,none⟩=some (.int .u16 (sg:Int))) (by kernel_rfl) (by kernel_rfl) (by kernel_rfl) (by kernel_rfl) (Nat.le_of_ble_eq_true rfl) ⟨n1,d1⟩ ?_;refine zJ (A:=?A3) ?h3a ?h3b
 case h3a=>
  rintro w' ⟨y0,y1⟩ K hK;simp only [zS,zls,zlt,zlu,zlv,zlw];refine WS.out ?_
  repeat (refine Zd (fun K hK=>?_);go_simp;refine hK _ ?_;clear hK K)
  refine Zv ?_;exact hK
 have kd:=zy (fun _=>False) w1;have d1:=zj kd (fun e=>e) d1;have n1:=zj kd (fun e=>e) n1;have n0:=zj kd (fun e=>e) n0;have O3:=zf (kd.obj (fun e=>e) O2.out);have K3:=zf K2.out.drew;have SG3:=zf (SG.out _ K3.out trivial);clear kd K2 O2 SG;generalize w1.drew=w2 at *;refine zQ rfl ?_;go_wp2_with fail;(with_reducible refine SG3.out.mono ?_);rintro e w3 ⟨rfl,k3⟩;have d1:=zj k3 (fun e=>e) d1;have n1:=zj k3 (fun e=>e) n1;have n0:=zj k3 (fun e=>e) n0;have O4:=zf (k3.obj (fun e=>e) O3.out);have K4:=zf (K3.out.trans k3);clear k3 K3 O3 SG3;go_wp2_with fail;refine ⟨⟨n1,d1⟩,?_⟩;cases sb0 with
 | false=>
  refine zJ (A:=?A4) ?h4a ?h4b
  case h4a=>
   rintro w' ⟨y0,y1⟩ K hK;simp only [zS,zls,zlt,zlu,zlv,zlw];refine WS.out ?_
   repeat (refine Zd (fun K hK=>?_);go_simp;refine hK _ ?_;clear hK K)
   refine Zv ?_;exact hK
  refine Za ?_;go_wp2;go_ret;exact ⟨rfl,SAME.out _ K4.out⟩
 | true=>
  refine zJ (A:=?A5) ?h5a ?h5b
  case h5a=>
   rintro w' ⟨y0,y1⟩ K hK;simp only [zS,zls,zlt,zlu,zlv,zlw];refine WS.out ?_
   repeat (refine Zd (fun K hK=>?_);go_simp;refine hK _ ?_;clear hK K)
   refine Zv ?_;exact hK
  refine Za ?_;go_wp2_with fail;have e0:=zg (o:=0) O4.out rfl;have e1:=zg (o:=1) O4.out rfl;have e2:=zg (o:=2) O4.out rfl;have e3:=zg (o:=3) O4.out rfl;have e4:=zg (o:=4) O4.out rfl;have e5:=zg (o:=5) O4.out rfl;have e6:=zg (o:=6) O4.out rfl;refine zC (N:=33) [.rd [0,1,2,3,4,5],.ef 6] (fun W=>W.cell? ⟨n,0,none⟩=some (.pointer (some ⟨sb,0,none⟩))∧W.cell? ⟨w.heap.size,0,none⟩=some (.int .i64 kind)∧W.cell? ⟨w.heap.size,1,none⟩=some (.int .u16 (sg:Int))∧W.cell? ⟨w.heap.size,2,none⟩=some (.string sp)∧W.cell? ⟨w.heap.size,3,none⟩=some (.slice sa fr.length sc)∧W.cell? ⟨w.heap.size,4,none⟩=some (.int .i64 f)∧W.cell? ⟨w.heap.size,5,none⟩=some (.int .i64 t)∧W.cell? ⟨w.heap.size,6,none⟩=some (.int .i64 m)) (by kernel_rfl) (by kernel_rfl) (by kernel_rfl) (by kernel_rfl) (Nat.le_of_ble_eq_true rfl) ⟨n0,e0,e1,e2,e3,e4,e5,e6⟩ ?_;refine zJ (A:=?A6) ?h6a ?h6b
  case h6a=>
   rintro w' ⟨y0,y1,y2,y3,y4,y5,y6,y7⟩ K hK;simp only [zS,zls,zlt,zlu,zlv,zlw];refine WS.out ?_
   repeat (refine Zd (fun K hK=>?_);go_simp;refine hK _ ?_;clear hK K)
   refine Zv ?_;exact hK
  have kd:=zy (fun _=>False) w3;have K5:=zf K4.out.drew;have O5:=zf (kd.obj (fun e=>e) O4.out);have n0:=zj kd (fun e=>e) n0;have PU5:=zf (PU.out _ K5.out);clear kd K4 PU e0 e1 e2 e3 e4 e5 e6 O4;generalize w3.drew=w4 at *;refine zQ rfl ?_;go_wp2_with fail;(with_reducible refine PU5.out.mono ?_);rintro e w5 ⟨SB',rfl,q1,q2,q3⟩;have o5:=q2.obj nb2 O5.out;have n0:=zj q2 hnS n0;have FIN:=zf (show ∃ SB',Zz w5 sb SB' res.2.2∧Chg SB w w5∧∀ k,SB' k->SB k∨w.heap.size<=k from ⟨SB',q1,(K5.out.mono (fun _ _ e=>e.elim)).trans q2,fun k e=>(q3 k e).imp id (fun q=>Nat.le_trans K5.out.size q)⟩);clear q1 q2 q3 PU5 K5;go_wp2_with fail;refine ⟨⟨n0,zg (o:=0) o5 rfl,zg (o:=1) o5 rfl,zg (o:=2) o5 rfl,zg (o:=3) o5 rfl,zg (o:=4) o5 rfl,zg (o:=5) o5 rfl,zg (o:=6) o5 rfl⟩,Za ?_⟩;go_wp2;go_ret;exact ⟨rfl,FIN.out⟩
theorem Yy (a:Nat):(ZL a).data.toList=[UInt8.ofNat (a / 256),UInt8.ofNat (a % 256)]:=by simp [ZL,Ze]
theorem XE {a:Nat} (h:a < 65536):zL (ZL a).data.toList 0=a:=by
 rw [Yy];unfold zL;simp only [List.getD_cons_zero,Nat.mul_zero,Nat.zero_add,List.getD_cons_succ,UInt8.toNat_ofNat'];omega
theorem XF (a:Nat):zI (ZL a).data.toList=1:=by rw [Yy];unfold zI;simp
theorem zdh {a:Nat} (h0:0 < a) (h:a < 65536):ZZ (ZL a).data.toList=true:=by
 have h1:=XF a
 have h2:(ZP (ZL a).data.toList)=[a]:=by
  unfold ZP;rw [h1];simp only [List.range_one,List.map_cons,List.map_nil,XE h]
 unfold ZZ;rw [h1,h2,Yy];simp;omega
theorem zaG {i:Nat} (hi:i < 3):xw [yZ i]=true∧zI (yZ i).data.toList=2∧zL (yZ i).data.toList 0=24577+i∧zL (yZ i).data.toList 1=40961∧ZZ (yZ i).data.toList=true:=by
 rcases (by omega:i=0∨i=1∨i=2) with rfl | rfl | rfl <;> decide +kernel
theorem zbs (i:Nat):(yZ i).size=4:=rfl
def xN (i key:Nat) (t boot:Int):zF:=⟨1,8193+i,ZL key,[yZ i],t,4611686018427387904,boot⟩
def Yw (i key c:Nat) (t serial:Int):zF:=⟨3,key,ZL c,[yZ i],t,4611686018427387904,serial⟩
theorem zeU {i key:Nat} {t boot:Int} (hi:i < 3) (hk:key / 8192=1) (ht:0<=t∧t<=2305843009213693952) (hb:0<=boot∧boot<=40):Zj (xN i key t boot)=true:=by
 obtain ⟨q1,q2,q3,q4,_⟩:=zaG hi;have m:=zdh (a:=key) (by omega) (by omega);have a1:=XF key;have a2:=XE (a:=key) (by omega);unfold Zj zd9 XN Xl Zi xN;simp only [zlU,decide_eq_true_eq];refine ⟨by omega,⟨by omega,m,q1,by omega,by omega,by omega⟩,by omega,fun w hw=>?_,?_⟩
 ·rw [List.mem_singleton] at hw
  subst hw;rw [a1,q2];omega
 ·rw [if_neg (by decide),if_neg (by decide),if_pos trivial]
  simp only [zlU,decide_eq_true_eq];refine ⟨⟨a1,?_⟩,q2,?_,?_⟩
  ·rw [a2,hk];simp
  ·rw [q3];omega
  ·rw [q4]
theorem zcg {i key c:Nat} {t serial:Int} (hi:i < 3) (hk:key / 8192=1) (hc:c / 8192=2) (ht:0<=t∧t<=4611686018427387904) (hb:0<=serial∧serial<=4611686018427387904):Zj (Yw i key c t serial)=true:=by
 obtain ⟨q1,q2,q3,q4,_⟩:=zaG hi;have m:=zdh (a:=c) (by omega) (by omega);have a1:=XF c;have a2:=XE (a:=c) (by omega);unfold Zj zd9 XN Xl Zi Yw;simp only [zlU,decide_eq_true_eq];refine ⟨by omega,⟨hk,m,q1,by omega,by omega,by omega⟩,by omega,fun w hw=>?_,?_⟩
 ·rw [List.mem_singleton] at hw
  subst hw;rw [a1,q2];omega
 ·rw [if_neg (by decide),if_neg (by decide),if_neg (by decide),if_neg (by decide),if_pos trivial]
  simp only [zlU,decide_eq_true_eq];refine ⟨a1,?_⟩;rw [a2,hc];simp
def zdR (c:zF):zB:=(zf5 60).plus c
theorem zh1 {c:zF} (h:Zj c=true):zfq (zf5 60) c=(0,0,zdR c):=zeC h rfl (by decide)
theorem zcP {c:zF} {t:Int} (h:c.f<=t∧t<=c.t):(zdR c).certsOf ((zdR c).which fun c=>yH c t)=[c]:=by
 have hh:yH c t=true:=by unfold yH;simp;exact h
 have hw:(zdR c).which (fun c=>yH c t)=[0]:=by
  unfold zB.which zdR zB.plus zf5;simp [hh]
 rw [hw];rfl
def zaO (ops:Array Oper) (j:Nat):Option Tmp:=(ops[j]?).bind (·.dst)
def zab (ops:Array Oper) (e:Nat):Option Nat:=(List.range ops.size).find? fun j=>zaO ops j == some e
def xd (ops:Array Oper) (t0:Array Value) (L:Nat->Bool) (V:Nat->Value):Array Value:=
  (Array.range t0.size).map fun e=>match zab ops e with
    | some j=>if L j=true then V j else t0.getD e undef
    | none=>t0.getD e undef
def yI (ops:Array Oper) (a:Act) (L:Nat->Bool) (V:Nat->Value):Act:=⟨xd ops a.tmps L V,a.defers⟩
def upd {α:Type} (f:Nat->α) (i:Nat) (v:α):Nat->α:=fun j=>if j=i then v else f j
theorem YF {α:Type} (f:Nat->α) (i:Nat) (v:α):upd f i v i=v:=if_pos rfl
theorem xD {α:Type} {f:Nat->α} {i j:Nat} {v:α} (h:j≠i):upd f i v j=f j:=if_neg h
section
variable {P:Program} {ops:Array Oper} {Q:Exit->Act->World->Prop}
theorem ym (t0:Array Value) (L:Nat->Bool) (V:Nat->Value):(xd ops t0 L V).size=t0.size:=by unfold xd;simp
theorem yT (t0:Array Value) (L:Nat->Bool) (V:Nat->Value) {e:Nat} (h:e < t0.size):(xd ops t0 L V)[e]? = some (match zab ops e with
  | some j=>if L j=true then V j else t0.getD e undef
  | none=>t0.getD e undef):=by
 unfold xd;rw [Array.getElem?_map,Array.getElem?_eq_getElem (by simpa using h)];simp
theorem zel {t0:Array Value} {L:Nat->Bool} {V:Nat->Value} {e j:Nat} (h:e < t0.size) (ho:zab ops e=some j) (hl:L j=true):(xd ops t0 L V).getD e undef=V j:=by
 have:=yT (ops:=ops) t0 L V h;rw [ho] at this;simp only [hl,if_true] at this;rw [Array.getD_eq_getD_getElem?,this];rfl
theorem zfY {t0:Array Value} {L:Nat->Bool} {V:Nat->Value} {e:Nat} (h:e < t0.size) (ho:zab ops e=none):(xd ops t0 L V).getD e undef=t0.getD e undef:=by
 have:=yT (ops:=ops) t0 L V h;rw [ho] at this;rw [Array.getD_eq_getD_getElem?,this];rfl
theorem zaS (t0:Array Value) (V:Nat->Value):xd ops t0 (fun _=>false) V=t0:=by
 apply Array.ext (ym _ _ _);intro e h1 h2;have:=yT (ops:=ops) t0 (fun _=>false) V h2;rw [Array.getElem?_eq_getElem h1] at this;have h3:=Option.some.inj this;rw [h3];have h4:t0.getD e undef=t0[e]:=by rw [Array.getD_eq_getD_getElem?,Array.getElem?_eq_getElem h2];rfl
 split <;> simp [h4]
theorem zcM {e j:Nat} (h:zab ops e=some j):zaO ops j=some e:=by
 unfold zab at h;have:=List.find?_some h
 simpa using this
def zkt (ops:Array Oper):Bool:=(List.range ops.size).all fun i=>match zaO ops i with
  | some d=>zab ops d == some i
  | none=>true
theorem zaR (hd:zkt ops=true) {a:Act} {L:Nat->Bool} {V:Nat->Value} {i:Nat} {o:Oper} (ho:ops[i]? = some o) (v:Value):(yI ops a L V).put o.dst v=yI ops a (upd L i true) (upd V i v):=by
 have hi:=(Array.getElem?_eq_some_iff.1 ho).1;have hdi:zaO ops i=o.dst:=by unfold zaO;rw [ho];rfl
 have hq:=zlQ.1 hd i (List.mem_range.2 hi);rw [hdi] at hq;unfold yI Act.put
 have key:∀ (e:Nat) (h:e < a.tmps.size),o.dst≠some e->(xd ops a.tmps (upd L i true) (upd V i v))[e]? = (xd ops a.tmps L V)[e]?:=fun e h hne=>by
  rw [yT _ _ _ h,yT _ _ _ h];cases hw:zab ops e with
  | none=>rfl
  | some j=>
   have hj:j≠i:=fun q=>by
    subst q;exact hne (by rw [<- hdi];exact zcM hw)
   simp only;rw [xD hj,xD hj]
 cases hdst:o.dst with
 | none=>
  simp only
  congr 1
  apply Array.ext_getElem?;intro e;by_cases h:e < a.tmps.size
  ·exact (key e h (by rw [hdst];simp)).symm
  ·rw [Array.getElem?_eq_none (by rw [ym];omega),Array.getElem?_eq_none (by rw [ym];omega)]
 | some d=>
  rw [hdst] at hq;simp only [beq_iff_eq] at hq;simp only
  congr 1
  apply Array.ext_getElem?;intro e;rw [Array.getElem?_setIfInBounds];by_cases h:e < a.tmps.size
  ·by_cases q:d=e
   ·subst q
    rw [if_pos rfl,if_pos (by rw [ym];exact h),yT _ _ _ h,hq];simp only;rw [YF,YF,if_pos rfl]
   ·rw [if_neg q]
    exact (key e h (by rw [hdst];simpa using q)).symm
  ·rw [Array.getElem?_eq_none (by rw [ym];omega),Array.getElem?_eq_none (by rw [ym];omega)]
   split
   ·rw [if_neg (by rw [ym];omega)]
   ·rfl
def ziJ (ops:Array Oper):Bool:=(List.range ops.size).all fun i=>((ops[i]?).map (·.after.all fun e=>!Region.binds .any e || decide (e.on < i))).getD true
def lf (listed:Array Bool):Nat->Bool:=fun j=>listed.getD j false
theorem zkg {listed:Array Bool} {i:Nat} (h:i < listed.size):lf (listed.setIfInBounds i true)=upd (lf listed) i true:=by
 funext j
 unfold lf upd;rw [Array.getD_eq_getD_getElem?,Array.getElem?_setIfInBounds];by_cases q:j=i
 ·subst q;rw [if_pos rfl,if_pos rfl,if_pos h];rfl
 ·rw [if_neg q,if_neg (Ne.symm q)]
  show listed[j]?.getD false=listed.getD j false;rw [Array.getD_eq_getD_getElem?]
theorem zcJ {listed:Array Bool} {i:Nat} (h:i∈Region.ready .any ops listed):i < ops.size∧listed.getD i true=false∧∃ o,ops[i]? = some o∧∀ e∈o.after,Region.binds .any e=true->listed.getD e.on false=true:=by
 unfold Region.ready at h;rw [List.mem_filter,List.mem_range] at h;obtain ⟨h1,h2⟩:=h;simp only [zlU,Bool.not_eq_true'] at h2;refine ⟨h1,h2.1,ops[i],Array.getElem?_eq_getElem h1,fun e he hb=>?_⟩;have h3:=h2.2;rw [Array.getElem?_eq_getElem h1] at h3;simp only [Option.map_some,Option.getD_some,Array.all_eq_true_iff_forall_mem] at h3;have:=h3 e he
 simpa [hb] using this
theorem mem_ready {listed:Array Bool} {i:Nat} {o:Oper} (h:ops[i]? = some o) (h1:listed.getD i true=false) (h2:∀ e∈o.after,Region.binds .any e=true->listed.getD e.on false=true):i∈Region.ready .any ops listed:=by
 have hi:=(Array.getElem?_eq_some_iff.1 h).1;unfold Region.ready;rw [List.mem_filter,List.mem_range];refine ⟨hi,?_⟩;rw [h1,h];simp only [Bool.not_false,Option.map_some,Option.getD_some,Bool.true_and,Array.all_eq_true_iff_forall_mem];intro e he;cases hb:Region.binds .any e with
 | false=>rfl
 | true=>simpa using h2 e he hb
theorem zbp (hback:ziJ ops=true) {listed:Array Bool} (hs:listed.size=ops.size) (h:Region.ready .any ops listed=[]):∀ j,j < ops.size->listed.getD j false=true:=by
 intro j;induction j using Nat.strongRecOn with
 | ind j ih=>
  intro hj;refine Decidable.byContradiction fun hn=>?_;have hb:=zlQ.1 hback j (List.mem_range.2 hj);rw [Array.getElem?_eq_getElem hj] at hb;simp only [Option.map_some,Option.getD_some,Array.all_eq_true_iff_forall_mem] at hb
  have hl:listed.getD j true=false:=by
   have hjl:j < listed.size:=by omega
   rw [Array.getD_eq_getD_getElem?,Array.getElem?_eq_getElem hjl] at hn ⊢
   simpa using hn
  have:j∈Region.ready .any ops listed:=mem_ready (Array.getElem?_eq_getElem hj) hl (fun e he hbe=>by
   have:=hb e he;simp [hbe] at this;exact ih e.on this (by omega))
  rw [h] at this;cases this
def unl (n:Nat) (listed:Array Bool):List Nat:=(List.range n).filter fun i=>!listed.getD i true
theorem zi8 {n i:Nat} {listed:Array Bool} (hs:listed.size=n) (hi:i < n) (h:listed.getD i true=false):(unl n (listed.setIfInBounds i true)).length < (unl n listed).length:=by
 unfold unl;have h1:i∈(List.range n).filter fun j=>!listed.getD j true:=by rw [List.mem_filter,List.mem_range];exact ⟨hi,by rw [h];rfl⟩
 have h2:(List.range n).filter (fun j=>!(listed.setIfInBounds i true).getD j true)=((List.range n).filter fun j=>!listed.getD j true).filter (fun j=>j != i):=by
  rw [List.filter_filter];apply List.filter_congr;intro j _;rw [Array.getD_eq_getD_getElem?,Array.getElem?_setIfInBounds];by_cases q:i=j
  ·subst q;rw [if_pos rfl,if_pos (by omega)];simp
  ·rw [if_neg q,Array.getD_eq_getD_getElem?];simp [Ne.symm q]
 rw [h2];exact List.length_filter_lt_length_iff_exists.2 ⟨i,h1,by simp⟩
theorem zg2 {a:Act} (I:(Nat->Bool)->(Nat->Value)->World->Prop) (hd:zkt ops=true) (hback:ziJ ops=true)
  (step:∀ (L:Nat->Bool) (V:Nat->Value) (W:World) (i:Nat) (o:Oper),ops[i]? = some o->L i=false->(∀ e∈o.after,Region.binds .any e=true->L e.on=true)->I L V W ->
   wpList P ops (xz Q (fun a' W'=>∃ v,a'=(yI ops a L V).put o.dst v∧I (upd L i true) (upd V i v) W')) [o] (yI ops a L V) W)
  (fin:∀ (L:Nat->Bool) (V:Nat->Value) (W:World),(∀ j,j < ops.size->L j=true)->I L V W->Q .normal (yI ops a L V) W):
  ∀ (fuel:Nat) (listed:Array Bool) (V:Nat->Value) (W:World),listed.size=ops.size->(unl ops.size listed).length<=fuel->I (lf listed) V W->wpAny P .any ops (NoPanic Q) fuel listed (yI ops a (lf listed) V) W
 | 0,listed,V,W,hs,hu,hI=>by
  have hnil:unl ops.size listed=[]:=List.eq_nil_of_length_eq_zero (by omega)
  have hr:Region.ready .any ops listed=[]:=by
   apply List.eq_nil_iff_forall_not_mem.2;intro i hi;obtain ⟨h1,h2,_⟩:=zcJ hi;have:i∈unl ops.size listed:=by unfold unl;rw [List.mem_filter,List.mem_range];exact ⟨h1,by rw [h2];rfl⟩
   rw [hnil] at this;cases this
  exact ⟨hr,fin _ _ _ (zbp hback hs hr) hI⟩
 | fuel+1,listed,V,W,hs,hu,hI=>by
  refine ⟨fun hr=>fin _ _ _ (zbp hback hs hr) hI,fun i hi=>?_⟩;obtain ⟨h1,h2,o,ho,hdep⟩:=zcJ hi
  have hli:lf listed i=false:=by
   unfold lf;have hil:i < listed.size:=by omega
   rw [Array.getD_eq_getD_getElem?,Array.getElem?_eq_getElem hil] at h2 ⊢
   simpa using h2
  refine wpOp_mono (fun a' W' h=>?_) (zjb ho (step (lf listed) V W i o ho hli hdep hI));obtain ⟨v,rfl,hI'⟩:=h;rw [zaR hd ho v];rw [<- zkg (by omega)] at hI' ⊢;have:=zi8 hs h1 h2;exact zg2 I hd hback step fin fuel _ _ _ (by simpa using hs) (by omega) hI'
theorem zbJ {id:Nat} {l:List Oper} {a:Act} {w:World} (I:(Nat->Bool)->(Nat->Value)->World->Prop) (hm:P.follows .mixedOrders=true) (hd:zkt l.toArray=true) (hback:ziJ l.toArray=true) (V0:Nat->Value) (h0:I (fun _=>false) V0 w.drew)
  (step:∀ (L:Nat->Bool) (V:Nat->Value) (W:World) (i:Nat) (o:Oper),l.toArray[i]? = some o->L i=false->(∀ e∈o.after,Region.binds .any e=true->L e.on=true)->I L V W ->
   wpList P l.toArray (xz Q (fun a' W'=>∃ v,a'=(yI l.toArray a L V).put o.dst v∧I (upd L i true) (upd V i v) W')) [o] (yI l.toArray a L V) W)
  (fin:∀ (L:Nat->Bool) (V:Nat->Value) (W:World),(∀ j,j < l.toArray.size->L j=true)->I L V W->Q .normal (yI l.toArray a L V) W):(Code.region id l.toArray true).wp P Q a w:=by
 refine wp_region_noPanic (wp_region_any hm ?_)
 have hlf:lf (Array.replicate l.toArray.size false)=fun _=>false:=by
  funext j
  unfold lf;rw [Array.getD_eq_getD_getElem?,Array.getElem?_replicate];split <;> rfl
 have:=zg2 (ops:=l.toArray) (a:=a) I hd hback step fin l.toArray.size (Array.replicate l.toArray.size false) V0 w.drew (by simp) (by unfold unl;exact Nat.le_trans (List.length_filter_le _ _) (by simp)) (by rw [hlf];exact h0);rw [hlf] at this;have e:yI l.toArray a (fun _=>false) V0=a:=by unfold yI;rw [zaS]
 rw [e] at this;exact this
end
theorem zdv {P:Program} {ops:Array Oper} {rest:List Oper} {o:Oper} {a:Act} {w:World} {Q:Exit->Act->World->Prop} (hg:o.guard=none) (v:Value) (w':World) (hrun:(execOp a.eval o).run P w=.ok (.value v) w')
  (h:wpList P ops Q rest (a.put o.dst v) w'):wpList P ops Q (o :: rest) a w:=by
 refine wpList_plain hg fun K hK=>?_;unfold Oper.wp;rw [hrun,Oper.upon_value];exact hK _ _ h
theorem zcu {P:Program} {ops:Array Oper} {rest:List Oper} {o:Oper} {a:Act} {w:World} {Q:Exit->Act->World->Prop} (hg:o.guard=none) (f:FuncId) (args:Array Value) (hrun:(execOp a.eval o).run P w=.ok (.enter f args) w) {Post:Ending->World->Prop} (hc:Calls P f args w Post)
  (h:∀ e w',Post e w'->∃ v,e=.returned v∧wpList P ops Q rest (a.put o.dst v) w'):wpList P ops Q (o :: rest) a w:=by
 refine wpList_plain hg fun K hK=>?_;unfold Oper.wp;rw [hrun,Oper.upon_enter];refine hc.mono fun e w'' hh=>?_;obtain ⟨v,rfl,h2⟩:=h e w'' hh;exact hK _ _ h2
section
variable {P:Program} {W W':World} {ρ:Operand->Value} {o:Oper} {x y z:Operand} {a b c v:Value} {t:TypeId}
theorem zcD (ho:o.op=.load t x) (hx:ρ x=a) (hr:(Instr.loadAt t a).run P W=.ok v W'):(execOp ρ o).run P W=.ok (.value v) W':=by
 simp only [execOp,ho,hx,Sem.run_bind,hr,Result.andThen_ok];rfl
theorem zbT {n:Nat} (ho:o.op=.buildSlice t n #[(0,x)]) (hx:ρ x=a) (hr:(Instr.buildSlice t n #[(0,a)]).run P W=.ok v W'):(execOp ρ o).run P W=.ok (.value v) W':=by
 simp only [execOp,ho,Sem.run_bind];rw [show (#[(0,x)]:Array (Nat × Operand)).map (fun (i,x)=>(i,ρ x))=#[(0,a)] by simp [hx],hr];rfl
theorem ziV (ho:o.op=.alloc t) (hr:(Instr.alloc t true (.tuple #[])).run P W=.ok v W'):(execOp ρ o).run P W=.ok (.value v) W':=by
 simp only [execOp,ho,Sem.run_bind,hr,Result.andThen_ok];rfl
theorem zj2 {f:FuncId} {ps:Array Operand} {ts:Array TypeId} {vs:Array Value} (ho:o.op=.call { callee:=.value (.func f),args:=ps,argTypes:=ts }) (hr:ρ (.func f)=.func (.func f) #[] #[]) (ha:ps.map ρ=vs) (hcf:∀ args w,(callFunc f args).run P w=.ok (.enter f args) w):(execOp ρ o).run P W=.ok (.enter f vs) W:=by
 simp [execOp,ho,resolve,invoke,hr,ha,hcf,Deferred.ofValue]
end
theorem zH {ops:Array Oper} {a:Act} {L:Nat->Bool} {V:Nat->Value} {e j:Nat} (h:e < a.tmps.size) (ho:zab ops e=some j) (hl:L j=true):(yI ops a L V).eval (.tmp e)=V j:=zel h ho hl
theorem Zu {ops:Array Oper} {a:Act} {L:Nat->Bool} {V:Nat->Value} {e:Nat} (h:e < a.tmps.size) (ho:zab ops e=none):(yI ops a L V).eval (.tmp e)=a.eval (.tmp e):=zfY h ho
def Xd (ops:Array Oper) (V:Nat->Value):Nat->Act->Act
  | 0,a=>a
  | n+1,a=>(Xd ops V n a).put (zaO ops n) (V n)
theorem zeT {ops:Array Oper} (hd:zkt ops=true) {a:Act} {V:Nat->Value}:∀ n,n<=ops.size->yI ops a (fun j=>decide (j < n)) V=Xd ops V n a
 | 0,_=>by
  unfold Xd;have:(fun j=>decide (j < 0))=fun _:Nat=>false:=by funext j;simp
  rw [this];unfold yI;rw [zaS]
 | n+1,h=>by
  unfold Xd;rw [<- zeT hd n (by omega)];have ho:ops[n]? = some ops[n]:=Array.getElem?_eq_getElem h;have:=zaR hd (a:=a) (L:=fun j=>decide (j < n)) (V:=V) ho (V n);rw [show zaO ops n=(ops[n]).dst by unfold zaO;rw [ho];rfl,this]
  have e1:upd (fun j=>decide (j < n)) n true=fun j=>decide (j < n+1):=by
   funext j
   unfold upd;by_cases q:j=n
   ·subst q;rw [if_pos rfl];simp
   ·rw [if_neg q]
    show decide (j < n)=decide (j < n+1);by_cases q2:j < n
    ·rw [zlx q2,zlx (by omega)]
    ·rw [zly q2,zly (by omega)]
  have e2:upd V n (V n)=V:=by
   funext j
   unfold upd;split
   ·rename_i q;rw [q]
   ·rfl
  rw [e1,e2]
def yV (P:Program) (ρ:Operand->Value) (o:Oper) (W:World) (K:Value->World->Prop):Prop:=
  o.guard=none∧((∃ v W',(execOp ρ o).run P W=.ok (.value v) W'∧K v W')∨∃ f args,(execOp ρ o).run P W=.ok (.enter f args) W∧Calls P f args W fun e W'=>∃ v,e=.returned v∧K v W')
def zbA (ops:Array Oper) (n:Nat):List Nat:=match ops[n]? with
  | some o=>(o.after.toList.filter fun e=>Region.binds .any e).map (·.on)
  | none=>[]
def zkz (ops:Array Oper):Nat->List Nat->List Nat
  | 0,m=>m
  | n+1,m=>if m.contains n then zkz ops n (m++zbA ops n) else zkz ops n m
def zkZ (ops:Array Oper) (last:Nat):Bool:=(List.range ops.size).all fun i=>(zkz ops ops.size [last]).contains i
section
variable {P:Program} {ops:Array Oper} {Q:Exit->Act->World->Prop}
def zaY (ops:Array Oper) (L:Nat->Bool):Prop:=∀ j,L j=true->∀ k∈zbA ops j,L k=true
theorem zeq {L:Nat->Bool} (h:zaY ops L):∀ n m,(∀ x∈m,L x=true)->∀ x∈zkz ops n m,L x=true
 | 0,m,hm,x,hx=>hm x hx
 | n+1,m,hm,x,hx=>by
  unfold zkz at hx;split at hx
  ·rename_i hc
   refine zeq h n _ (fun y hy=>?_) x hx;rcases zlL.1 hy with hy | hy
   ·exact hm y hy
   ·exact h n (hm n (List.contains_iff_mem.1 hc)) y hy
  ·exact zeq h n m hm x hx
theorem zhw {L:Nat->Bool} {last:Nat} (ha:zkZ ops last=true) (h:zaY ops L) (hl:L last=true):∀ j,j < ops.size->L j=true:=fun j hj=>by
 have:=zlQ.1 ha j (List.mem_range.2 hj);exact zeq h _ _ (fun x hx=>by rw [List.mem_singleton] at hx;exact hx ▸ hl) j (List.contains_iff_mem.1 this)
theorem ziM {L:Nat->Bool} {last:Nat} (ha:zkZ ops last=true) (h:zaY ops L) (hl:∀ k∈zbA ops last,L k=true):∀ j,j < ops.size->j≠last->L j=true:=fun j hj hne=>by
 have hs:zaY ops (upd L last true):=fun i hi k hk=>by
  by_cases e:k=last
  ·rw [e,YF]
  ·rw [xD e]
   by_cases e2:i=last
   ·subst e2;exact hl k hk
   ·rw [xD e2] at hi;exact h i hi k hk
 have:=zhw ha hs (YF _ _ _) j hj;rwa [xD hne] at this
theorem zek {a:Act} {L L':Nat->Bool} {V:Nat->Value} (h:∀ j,j < ops.size->L j=L' j):yI ops a L V=yI ops a L' V:=by
 unfold yI xd
 congr 1
 congr 1
 funext e
 cases ho:zab ops e with
 | none=>rfl
 | some j=>
  have:j < ops.size:=by
   have:=zcM ho;unfold zaO at this;rcases Nat.lt_or_ge j ops.size with q | q
   ·exact q
   ·rw [Array.getElem?_eq_none q] at this;cases this
  simp only [h j this]
theorem zfu {o:Oper} {a:Act} {w:World} {n n':Act->World->Prop} (hn:∀ a w,n a w->n' a w) (h:wpList P ops (xz Q n) [o] a w):wpList P ops (xz Q n') [o] a w:=by
 have hq:∀ e a w,xz Q n e a w->xz Q n' e a w:=by
  intro e a w h;cases e <;> first | exact hn _ _ h | exact h
 unfold wpList at *;split at h
 ·rename_i hw
  rw [if_pos hw];refine h.imp (fun h=>?_) (fun ⟨h1,a,w,h2⟩=>⟨h1,a,w,h2⟩);exact Oper.wp_mono (fun a w h=>hq _ _ _ h) (xS (fun e a w _ h=>hq e a w h) h)
 ·rename_i hw
  rw [if_neg hw];exact hq _ _ _ h
theorem xR {id:Nat} {l:List Oper} {a:Act} {w:World} (A:Nat->Value->World->Prop) (last:Nat) (hm:P.follows .mixedOrders=true) (hd:zkt l.toArray=true) (hback:ziJ l.toArray=true) (hlast:last+1=l.toArray.size) (hanc:zkZ l.toArray last=true)
  (stab:∀ i v W W',A i v W->Chg (fun _=>False) W W'->A i v W')
  (step:∀ (L:Nat->Bool) (V:Nat->Value) (W:World) (i:Nat) (o:Oper),l.toArray[i]? = some o->i < last->(∀ e∈o.after,Region.binds .any e=true->L e.on=true)->Chg (fun _=>False) w.drew W->(∀ j,L j=true->A j (V j) W)->(∀ e j,e < a.tmps.size->zab l.toArray e=some j->L j=true->(yI l.toArray a L V).eval (.tmp e)=V j) ->
   yV P (yI l.toArray a L V).eval o W (fun v W'=>A i v W'∧Chg (fun _=>False) W W'))
  (fin:∀ (V:Nat->Value) (W:World) (o:Oper),l.toArray[last]? = some o->Chg (fun _=>False) w.drew W->(∀ j,j < last->A j (V j) W) ->
   wpList P l.toArray (xz Q (fun a' W'=>∃ v,a'=(Xd l.toArray V last a).put o.dst v∧Q .normal a' W')) [o] (Xd l.toArray V last a) W):(Code.region id l.toArray true).wp P Q a w:=by
 refine zbJ (fun L V W=>zaY l.toArray L∧(∀ j,l.toArray.size<=j->L j=false)∧(L last=false->Chg (fun _=>False) w.drew W∧∀ j,L j=true->A j (V j) W)∧(L last=true->Q .normal (yI l.toArray a L V) W)) hm hd hback (fun _=>undef) ⟨fun j hj=>(by cases hj),fun _ _=>rfl,fun _=>⟨Chg.refl _ _,fun j hj=>(by cases hj)⟩,fun h=>(by cases h)⟩ ?_ ?_
 ·intro L V W i o ho hi hdep ⟨h1,h2,h3,h4⟩
  have hlt:=(Array.getElem?_eq_some_iff.1 ho).1;have hdi:zbA l.toArray i=(o.after.toList.filter fun e=>Region.binds .any e).map (·.on):=by unfold zbA;rw [ho]
  have hdl:∀ k∈zbA l.toArray i,L k=true:=fun k hk=>by
   rw [hdi] at hk;obtain ⟨e,he,rfl⟩:=List.mem_map.1 hk;rw [List.mem_filter] at he;exact hdep e (Array.mem_toList_iff.1 he.1) he.2
  have hs:zaY l.toArray (upd L i true):=fun j hj k hk=>by
   by_cases e:k=i
   ·rw [e,YF]
   ·rw [xD e]
    by_cases e2:j=i
    ·subst e2;exact hdl k hk
    ·rw [xD e2] at hj;exact h1 j hj k hk
  have hz:∀ j,l.toArray.size<=j->upd L i true j=false:=fun j hj=>by rw [xD (by omega)];exact h2 j hj
  have hll:L last=false:=by
   cases e:L last with
   | false=>rfl
   | true=>have:=zhw hanc h1 e i hlt;rw [hi] at this;cases this
  obtain ⟨hc,hA⟩:=h3 hll;by_cases hil:i=last
  ·subst hil
   have hall:=ziM hanc h1 hdl
   have e:yI l.toArray a L V=Xd l.toArray V i a:=by
    rw [<- zeT hd i (by omega)];refine zek fun j hj=>?_;by_cases q:j=i
    ·subst q;rw [hi];simp
    ·rw [hall j hj q];simp;omega
   have:=fin V W o ho hc (fun j hj=>hA j (hall j (by omega) (by omega)));rw [<- e] at this;refine zfu ?_ this;rintro a' W' ⟨v,rfl,hq⟩;refine ⟨v,rfl,hs,hz,fun h=>(by rw [YF] at h;cases h),fun _=>?_⟩;rw [<- zaR hd ho v];exact hq
  ·obtain ⟨hg,hst⟩:=step L V W i o ho (by omega) hdep hc hA (fun e j h1 h2 h3=>zH h1 h2 h3)
   have key:∀ v W',A i v W'∧Chg (fun _=>False) W W'->∃ v',(yI l.toArray a L V).put o.dst v=(yI l.toArray a L V).put o.dst v'∧zaY l.toArray (upd L i true)∧(∀ j,l.toArray.size<=j->upd L i true j=false)∧(upd L i true last=false->Chg (fun _=>False) w.drew W'∧∀ j,upd L i true j=true->A j (upd V i v' j) W')∧(upd L i true last=true->Q .normal (yI l.toArray a (upd L i true) (upd V i v')) W'):=fun v W' ⟨q1,q2⟩=>by
    refine ⟨v,rfl,hs,hz,fun _=>⟨hc.trans q2,fun j hj=>?_⟩,fun h=>by rw [xD (Ne.symm hil),hll] at h;cases h⟩;by_cases e:j=i
    ·subst e;rw [YF];exact q1
    ·rw [xD e] at hj ⊢
     exact stab j _ _ _ (hA j hj) q2
   rcases hst with ⟨v,W',hr,hk⟩ | ⟨f,args,hr,hk⟩
   ·exact zdv hg v W' hr (key v W' hk)
   ·exact zcu hg f args hr hk fun e W' ⟨v,he,hv⟩=>⟨v,he,key v W' hv⟩
 ·intro L V W hall ⟨_,_,_,h4⟩
  exact h4 (hall last (by omega))
end
section
variable {P:Program} {W W':World} {ρ:Operand->Value} {o:Oper} {x y z:Operand} {a b c v:Value} {t:TypeId} {K:Value->World->Prop}
theorem yV.val (hg:o.guard=none) (hr:(execOp ρ o).run P W=.ok (.value v) W') (hk:K v W'):yV P ρ o W K:=⟨hg,.inl ⟨v,W',hr,hk⟩⟩
theorem yV.call (hg:o.guard=none) {f:FuncId} {args:Array Value} (hr:(execOp ρ o).run P W=.ok (.enter f args) W) (hc:Calls P f args W fun e W'=>∃ v,e=.returned v∧K v W'):yV P ρ o W K:=⟨hg,.inr ⟨f,args,hr,hc⟩⟩
theorem za1 (ho:o.op=.move x∨o.op=.assign x) (h:ρ x=v):(execOp ρ o).run P W=.ok (.value v) W:=by
 rcases ho with ho | ho <;> simp only [execOp,ho,h] <;> rfl
theorem zhX {ad:Addr} (ho:o.op=.nilCheck x) (h:ρ x=.pointer (some ad)):(execOp ρ o).run P W=.ok (.value (.pointer (some ad))) W:=by
 simp only [execOp,ho,h];rfl
theorem zbV {i:Nat} (ho:o.op=.fieldAddr t x i) (h:ρ x=a) (hr:(Instr.fieldAt t a i).run P W=.ok v W):(execOp ρ o).run P W=.ok (.value v) W:=by
 simp only [execOp,ho,h,Sem.run_bind,hr,Result.andThen_ok];rfl
theorem zj5 {ps:Array (Nat × Operand)} {vs:Array (Nat × Value)} (ho:o.op=.build t ps) (h:ps.map (fun (i,x)=>(i,ρ x))=vs) (hr:(Instr.build t vs).run P W=.ok v W):(execOp ρ o).run P W=.ok (.value v) W:=by
 simp only [execOp,ho,h,Sem.run_bind,hr,Result.andThen_ok];rfl
theorem zcE {f:FuncId} {ts:Array TypeId} (ho:o.op=.call { callee:=.value (.func f),args:=#[x],argTypes:=ts }) (hr:ρ (.func f)=.func (.func f) #[] #[]) (hx:ρ x=a) (hcf:∀ args w,(callFunc f args).run P w=.ok (.enter f args) w):(execOp ρ o).run P W=.ok (.enter f #[a]) W:=
 zj2 ho hr (by simp [hx]) hcf
theorem zj4 {op:BinOp} {t2:TypeId} (ho:o.op=.binOp op t x y t2) (hx:ρ x=a) (hy:ρ y=b) (hr:(do eqGuard op t x y a b;binOp op t a b:Sem Value).run P W=.ok v W):(execOp ρ o).run P W=.ok (.value v) W:=by
 simp only [execOp,ho,hx,hy];rw [Sem.run_bind,hr];rfl
end
end Go.Proofs.YtcilaocknhphnaaGreat
