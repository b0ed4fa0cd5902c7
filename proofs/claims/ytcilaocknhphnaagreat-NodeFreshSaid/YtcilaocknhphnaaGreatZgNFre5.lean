/-
  The law of fresh keys: its walk.
-/
import Derived.Test.YtcilaocknhphnaaGreatZgNRcd
namespace Go.Proofs.YtcilaocknhphnaaGreat
open Go.RowKit Go.Maps
set_option maxHeartbeats 20000000 in
set_option maxRecDepth 100000 in
theorem zg9 (w:World) (r:zcn) (oa:Option Addr) (oc:Nat) (G:Nat->Prop) (i:Int) (ov kv:Value) (ol:List Nat) (keep:List Bool) (h:ZC w (.slice oa r.objs.length oc) G r.objs) (hG:∀ k,G k->k < w.heap.size) (ho:zdl w ov (· < w.heap.size) ol) (hk:XH w kv (· < w.heap.size) keep):
  Calls Tryz.prog 8 #[.int .i64 i,.agg #[.int .i64 r.boot,.slice oa r.objs.length oc],ov,kv] w fun e w'=>e=.returned (.bool true)∧Chg (fun _=>False) w w':=by
 obtain ⟨la,lc,rfl,hl0,_⟩:=id ho;obtain ⟨ka',kc,rfl,hk0,_⟩:=id hk;unfold maxLen at hl0 hk0;have ka:=zi (fun _=>False) w (.cells #[.int .i64 r.boot,.slice oa r.objs.length oc] 40);have OA:=zf (zh w (.cells #[.int .i64 r.boot,.slice oa r.objs.length oc] 40));have sa:w.heap.size < (w.alloc (.cells #[.int .i64 r.boot,.slice oa r.objs.length oc] 40)).heap.size:=by rw [zlH];omega
 have H0:=zf h;have HO:=zf ho;have HK:=zf hk;have HG:=zf hG;have C1:=zf ((Chg.refl (fun k=>w.heap.size<=k) w).next ka (fun _ _ e=>e.elim));have H1:=zf (h.chg ka (fun _ _ e=>e));clear ka h hG ho hk;go_enter Tryz.func8,Tryz.ntmps8;go_wp2_with fail;generalize hw1:w.alloc (.cells #[.int .i64 r.boot,.slice oa r.objs.length oc] 40)=w1 at *;clear hw1;refine (zjF w1).mono ?_;rintro e w2 ⟨rfl,k2⟩;have k2:Chg (fun _=>False) w1 w2:=zhk k2;have OB2:=k2.obj (fun e=>e) OA.out;have H2:=zf (H1.out.chg k2 (fun _ _ e=>e));have c0:=zg (o:=0) OB2 rfl;have c1:=zg (o:=1) OB2 rfl;have O2:=zf OB2;have C2:=zf (C1.out.next k2 (fun _ _ e=>e.elim));have s2:w1.heap.size<=w2.heap.size:=k2.size;clear k2 OA H1 OB2 C1;go_wp2_with fail;refine (ze7 w2 r oa oc G H2.out).mono ?_;rintro e w3 ⟨bw,rfl,k3,fit⟩;have c03:=zj k3 (fun e=>e) c0;have c13:=zj k3 (fun e=>e) c1;have O3:=zf (k3.obj (fun e=>e) O2.out);have H3:=zf (H2.out.chg k3 (fun _ _ e=>e));have C3:=zf (C2.out.next k3 (fun _ _ e=>e.elim));have s3:w2.heap.size<=w3.heap.size:=k3.size;have FINE:=zf (show ∀ w',Chg (fun k=>w.heap.size<=k) w w'->Chg (fun _=>False) w w' from fun w' k=>k.mono fun x hx e=>by omega);clear k3 c0 c1 O2 H2 C2;cases bw with
 | true=>
  go_wp2;go_ret;exact ⟨rfl,FINE.out _ C3.out⟩
 | false=>
  have FIT:=zf (fit rfl);clear fit;by_cases h45:45 < ol.length
  ·have g1:decide (45 < (ol.length:Int))=true:=zlx (by omega)
   have g1':decide (45 < ol.length)=true:=zlx h45;go_wp2;go_ret;exact ⟨rfl,FINE.out _ C3.out⟩
  have g1:decide (45 < (ol.length:Int))=false:=zly (by omega);have g1':decide (45 < ol.length)=false:=zly h45;by_cases h100:100 < keep.length
  ·have g2:decide (100 < (keep.length:Int))=true:=zlx (by omega)
   have g2':decide (100 < keep.length)=true:=zlx h100;go_wp2;go_ret;exact ⟨rfl,FINE.out _ C3.out⟩
  have g2:decide (100 < (keep.length:Int))=false:=zly (by omega);have g2':decide (100 < keep.length)=false:=zly h100;have DV:=zf (show Calls Tryz.prog 12 #[.int .i64 65] w3 _ from zed w3 65 (by omega) (by omega));go_wp2_with fail;refine (DV.out).mono ?_;rintro e w4 ⟨B,rfl,hBn,d4,k4,l4⟩;have O4:=zf (k4.obj (fun e=>e) O3.out);have H4:=zf (H3.out.chg k4 (fun _ _ e=>e));have C4:=zf (C3.out.next k4 (fun _ _ e=>e.elim));have D4:=zf d4;have L4:=zf l4;have s4:w3.heap.size<=w4.heap.size:=k4.size;have HBn:=zf hBn;clear d4 l4 hBn k4 DV O3 H3 C3 c03 c13;unfold DB.ptr at *;go_wp2_with fail;refine (zeo w4).mono ?_;rintro e w5 ⟨rfl,b5,k5,s5⟩;have OB5:=k5.obj (fun e=>e) O4.out;have c0:=zg (o:=0) OB5 rfl;have c1:=zg (o:=1) OB5 rfl;have H5:=zf (H4.out.chg k5 (fun _ _ e=>e));have C5:=zf (C4.out.next k5 (fun _ _ e=>e.elim));have D5:=zf (D4.out.chg k5 (fun _ _ e=>e));have B5:=zf b5;clear b5 k5 OB5 H4 C4 D4 O4;have FM:=zf (zfR w5 B r oa oc G D5.out HBn.out H5.out (fun o ho=>by have:=FIT.out.ents o ho;omega) (fun k hk=>by have:=HG.out k hk;omega));unfold DB.ptr at *;go_wp2_with fail;refine (FM.out).mono ?_;rintro e w6 ⟨c,rfl,k6,hc2,hc4⟩;have s6:w5.heap.size<=w6.heap.size:=k6.size;have C6:=zf (C5.out.next k6 (fun x hx e=>by have:=(L4.out _ e).1;omega));by_cases hc0:c=0
  ·subst hc0
   have hrb:xF r=true:=by
    cases hq:xF r with
    | true=>rfl
    | false=>exact absurd (hc2 (.inl hq)) (by decide)
   have hb0:r.boot=0:=by
    by_cases q:r.boot=0
    ·exact q
    ·exact absurd (hc2 (.inr q)) (by decide)
   rcases hc4 hrb hb0 with e | ⟨_,hs,d,d6,ca⟩
   ·exact absurd e (by decide)
   have B6:=zf (B5.out.chg k6 (fun x e hB=>by have:=(L4.out _ hB).2;omega));have OR:=zf (fun w' (q:Chg (fun x=>w.heap.size<=x) w w')=>And.intro (HO.out.chg q (fun x h1 h2=>by omega)) (HK.out.chg q (fun x h1 h2=>by omega)));obtain ⟨rb,objs⟩:=r;simp only at hb0;subst hb0;have DV:=zf d6;have CA:=zf (show zds 65 d ⟨1,1,⟨(YI ⟨((0:Nat):Int),objs⟩).toArray⟩⟩ from ca);have HRB:=zf (show xF ⟨((0:Nat):Int),objs⟩=true from hrb);have HS:=zf (show (YI ⟨((0:Nat):Int),objs⟩).length<=1024 from hs);have kx:=zi (fun _=>False) w6 (.map #[] 0);have ky:=zi (fun _=>False) (w6.alloc (.map #[] 0)) (.map #[] 0);have m1:=(yC.made Tryz.prog 58 w6).chg ky (fun e=>e);have m2:=yC.made Tryz.prog 58 (w6.alloc (.map #[] 0));rw [zlH] at m2;have sz7:w6.heap.size+1 < ((w6.alloc (.map #[] 0)).alloc (.map #[] 0)).heap.size:=m2.lt
   have FR:=zf (show Fr w ((w6.alloc (.map #[] 0)).alloc (.map #[] 0)) B w4.heap.size w6.heap.size (w6.heap.size+1) ((w6.alloc (.map #[] 0)).alloc (.map #[] 0)).heap.size i.toNat 0 0 0 0 objs 1 1 (fun k=>k=w4.heap.size) [] d (fun _=>none) (fun _=>none) 0 0 from
    { dev:=(DV.out.chg kx (fun _ _ e=>e)).chg ky (fun _ _ e=>e),calm:=CA.out,num:=by decide,half:=by decide,book:=(B6.out.chg kx (fun _ _ e=>e)).chg ky (fun _ _ e=>e),bb:=fun x e=>.inl e,len:=by decide,mpk:=m1,mpc:=m2,keys:=zfG _ _,chans:=zei _ _ _,lk:=by decide,lc:=by decide,size:=zlS _,dv:=⟨HBn.out,fun x e=>by have:=L4.out x e;omega⟩,ord:=by omega,chg:=(C6.out.next kx (fun _ _ e=>e.elim)).next ky (fun _ _ e=>e.elim) })
   clear hc2 hc4 hs d6 ca hrb k6 FM c0 c1 DV CA B6 kx ky m1 m2 D5 B5 H5 C5 C6;have MKM:=fun (w:World)=>run_makeMap (P:=Tryz.prog) 106 w;go_wp2_with fail;generalize (w6.alloc (.map #[] 0)).alloc (.map #[] 0)=w7 at *;clear MKM;by_cases hi:i < 0∨2 < i
   ·have BA:=zf (zen w7 i 0 hi (.pointer (some ⟨B.b,0,none⟩)) (.pointer (some ⟨w4.heap.size,0,none⟩)))
    have CF:=zf FR.out.chg;clear FR;go_loopw [48] (fun kv wr=>kv=.int .i64 0∧w7=wr) (fun _ _=>0)
    case atStart=>exact ⟨rfl,rfl⟩
    case round=>
     obtain ⟨rfl,rfl⟩:=hrel;by_cases hlt:0 < ol.length
     ·have g3:decide (0 < (ol.length:Int))=true:=zlx (by omega)
      have g3':decide (0 < ol.length)=true:=zlx hlt;go_wp2_with fail;refine (BA.out).mono ?_;rintro e w8 ⟨rfl,rfl⟩;by_cases h0:i < 0
      ·have u0:decide (i < 0)=true:=zlx h0
       go_wp2;go_ret;exact ⟨rfl,FINE.out _ CF.out⟩
      ·have u0:decide (i < 0)=false:=zly h0
       have u1:decide (2 < i)=true:=zlx (by omega);go_wp2;go_ret;exact ⟨rfl,FINE.out _ CF.out⟩
     ·have g3:decide (0 < (ol.length:Int))=false:=zly (by omega)
      have g3':decide (0 < ol.length)=false:=zly hlt;go_wp2;go_ret;exact ⟨rfl,FINE.out _ CF.out⟩
   obtain ⟨iN,rfl⟩:∃ n:Nat,i=(n:Int):=⟨i.toNat,by omega⟩;rw [Int.toNat_natCast] at FR;have hiN:iN < 3:=by omega
   clear hi;go_loopw [48] (fun kv wr=>∃ (k half:Nat) (num:Int) (BB:Nat->Prop) (L:List (Nat × ByteArray)) (d:Dev) (fk fc:Lit->Option Value) (nk nc:Nat),k<=ol.length∧k<=40∧kv=.int .i64 k∧Hid (Fr w wr B w4.heap.size w6.heap.size (w6.heap.size+1) w7.heap.size iN k k k 0 objs num half BB L d fk fc nk nc)) (fun kv _=>ol.length - (intOf kv).toNat)
   case atStart=>exact ⟨0,1,1,_,[],d,_,_,0,0,by omega,by omega,rfl,FR⟩
   case round=>
    obtain ⟨k,half,num,BB,L,d',fk,fc,nk,nc,hkl,hk40,rfl,FK⟩:=hrel;clear FR;by_cases hlt:k < ol.length
    ·obtain ⟨x,hx⟩:∃ x,ol[k]? = some x:=⟨_,zlz hlt⟩
     have HX:=zf hx;have HRk:=zf (zh0 HRB.out hk40);have HSk:=zf (show (YI ⟨(k:Int),objs⟩).length<=1024 by rw [zeA objs hk40];exact HS.out);clear hx;by_cases hk:40<=k
     ·have BG:=zf (zdf wr B d' k objs num half iN hiN (k:Int) ⟨by omega,by omega⟩ w4.heap.size FK.out.dev FK.out.calm HRk.out (by omega) (by have:=HSk.out;omega))
      have g3:decide ((k:Int) < (ol.length:Int))=true:=zlx (by omega);have g40:((k:Int) == 40)=true:=by rw [beq_iff_eq];omega
      have g40':decide ((k:Int)=40)=true:=zlx (by omega);unfold DB.ptr at *;go_wp2_with fail;(with_reducible refine BG.out.mono ?_);rintro e w8 ⟨rfl,k8⟩;have CF:=zf (FK.out.still k8).chg;clear BG k8 FK;go_wp2;go_ret;exact ⟨rfl,FINE.out _ CF.out⟩
     ·as_aux_lemma=>
      have hk39:k < 40:=by omega
      have FKo:=FK.out;have BT:=zf (zhs wr B d' k objs num half iN hiN (k:Int) ⟨by omega,by omega⟩ w4.heap.size BB L [] FKo.book (fun y e1 e2=>by have:=(FKo.dv.2 y e2).2;have:=FKo.ord;rcases FKo.bb y e1 with e | e <;> omega) FKo.dev FKo.dv.1 FKo.calm (by have:=FKo.num;omega) FKo.half HRk.out hk39 (by have:=HSk.out;omega) (by rw [zeA objs (by omega)];exact HS.out) (by have:=FKo.len;omega));unfold DB.ptr at *;clear FKo;go_wp2_with fail;(with_reducible refine BT.out.mono ?_);rintro e w8 ⟨n,y,d8,rfl,hnd,hyb,hyi,hyt,hyk,hybt,hyo,hyl,hys,hdv,hca,⟨BB',hbk,hbb,hap⟩,kb⟩;have F8:=zf (FK.out.boot hdv hca hbk hbb kb);have hb8:w7.heap.size<=wr.heap.size:=FK.out.size;obtain ⟨bz,hbz⟩:∃ bz,bz=wr.heap.size:=⟨_,rfl⟩;rw [<- hbz] at hnd hb8;clear hbz;have ND:=zf hnd;have HAP:=zf (show ze0 y n BB' from hap);obtain ⟨sb,tb,tg,cb,jb,yb,yi,yt,key,yboot,oa',oc',yobjs,ylv,ys,SB,GG⟩:=y;simp only at hyb hyi hyt hyk hybt hyo hyl hys;obtain ⟨c0,hc0⟩:∃ c0,c0=xN iN (8292+50*iN+(k+1)) (k:Int) ((k+1:Nat):Int):=⟨_,rfl⟩;rw [<- hc0] at hys;have CB:=zf (show Zj c0=true by rw [hc0];exact zeU hiN (by omega) ⟨by omega,by omega⟩ ⟨by omega,by omega⟩);have CT:=zf (show c0.f<=(k:Int)∧(k:Int)<=c0.t by rw [hc0];exact ⟨by show (k:Int)<=(k:Int);omega,by show (k:Int)<=4611686018427387904;omega⟩);clear hc0;have hyi:=hyi.symm;have hyo:=hyo.symm;subst hyb hyi hyt hyo hyl hys;obtain ⟨m,hm⟩:∃ m:Nat,m=k+1:=⟨_,rfl⟩;rw [<- hm] at hybt hyk;subst hybt;have HM:=zf hm;have HKEY:=zf hyk;have key6:key < 16384:=by omega
      have key8:8192<=key:=by omega
      have m40:m<=40:=by omega
      have m1:1<=m:=by omega
      have EM:=zf (show IntKind.i64.wrap ((k:Int)+1)=(m:Int) by rw [IntKind.wrap_i64];omega);have ob:=hnd.obj;unfold zb2 at ob;simp only at ob;have OB:=zf ob;have y0:w8.cell? ⟨n,0,none⟩=some (.pointer (some ⟨sb,0,none⟩)):=zg (o:=0) ob rfl;have y1:w8.cell? ⟨n,1,none⟩=some (.pointer (some ⟨tb,0,none⟩)):=zg (o:=1) ob rfl;have y4:w8.cell? ⟨n,4,none⟩=some (.int .i64 (k:Int)):=zg (o:=4) ob rfl;have y5:w8.cell? ⟨n,5,none⟩=some (.int .u16 (key:Int)):=zg (o:=5) ob rfl;have y9:w8.cell? ⟨n,9,none⟩=some (.int .i64 (m:Int)):=zg (o:=9) ob rfl;have y10:w8.cell? ⟨n,10,none⟩=some (.slice oa' objs.length oc'):=zg (o:=10) ob rfl;have y12:w8.cell? ⟨n,12,none⟩=some (.slice none 0 0):=zg (o:=12) ob rfl;have y13:w8.cell? ⟨n,13,none⟩=some (.slice none 0 0):=zg (o:=13) ob rfl;have yt:w8.cell? ⟨tb,1,none⟩=some (.slice none 0 0):=zg (o:=1) hnd.tab.obj rfl;clear hdv hca hbk hbb kb hap FK BT hyk hm ob hnd;have g8:decide ((key:Int) < 8192)=false:=zly (by omega);have g8':decide (key < 8192)=false:=zly (by omega);have g16:decide (16384<=(key:Int))=false:=zly (by omega);have g16':decide (16384<=key)=false:=zly (by omega);go_wp2_with fail;refine zC (N:=224) [.rd [0,1,2,3,4,5,6,7,8,9,10,11,12,13,14,15,16,17,18,19,20,21,22,23,24,25,26,27,28,29],.ef 30,.rd [31,32,33,34,35,36,37,38,39,40,41,42,43,44,45,46,47,48,49,50,51,52,53,54,55,56,57,60,61],.ef 58,.rd [59,62,63,64,65,66,67,68,69,70,71]] (fun W=>W.cell? ⟨n,1,none⟩=some (.pointer (some ⟨tb,0,none⟩))∧W.cell? ⟨n,4,none⟩=some (.int .i64 (k:Int))∧W.cell? ⟨n,5,none⟩=some (.int .u16 (key:Int))∧W.cell? ⟨n,12,none⟩=some (.slice none 0 0)∧W.cell? ⟨n,13,none⟩=some (.slice none 0 0)∧W.cell? ⟨tb,1,none⟩=some (.slice none 0 0)∧Hid (yC Tryz.prog 58 W w6.heap.size nk fk)) (by kernel_rfl) (by kernel_rfl) (by kernel_rfl) (by kernel_rfl) (Nat.le_of_ble_eq_true rfl) ⟨y1,y4,y5,y12,y13,yt,zf (F8.out.mpk.chg (zy (fun _=>False) _) (fun e=>e))⟩ ?_;have KF:=zf (F8.out.keys.fresh (a:=key) (by rw [<- HM.out];exact HKEY.out) (by omega));refine zJ (A:=?A1) ?h1a ?h1b
      case h1a=>
       rintro w' ⟨z1,z4,z5,z12,z13,zt,zm⟩ K hK;have LK:=zf (zm.out.look_at Tryz.atomKeyed Tryz.underlying106 (Tryz.zeroBoolF w') (XG key (by omega)) KF.out);simp only [zS,zls,zlt,zlu]
       repeat still_step
       still_call ((xp w' n key z5).mono fun _ _ h=>⟨h.1,h.2.symm⟩)
       repeat still_step
       refine wpStill_step (fun K hK=>?_);go_simp;rw [LK.out];go_simp;refine hK _ ?_;clear hK K
       repeat still_step
       still_call ((xp w' n key z5).mono fun _ _ h=>⟨h.1,h.2.symm⟩)
       repeat still_step
       still_call ((xp w' n key z5).mono fun _ _ h=>⟨h.1,h.2.symm⟩)
       repeat still_step
       refine wpStill_nil ?_;exact hK
      have kd:=zy (fun _=>False) w8;have F9:=zf (F8.out.still kd);have ND9:=zf (ND.out.chg kd (fun _ _ e=>e));have y0:=zj kd (fun e=>e) y0;have y1:=zj kd (fun e=>e) y1;have y4:=zj kd (fun e=>e) y4;have y5:=zj kd (fun e=>e) y5;have y9:=zj kd (fun e=>e) y9;have y10:=zj kd (fun e=>e) y10;have y12:=zj kd (fun e=>e) y12;have y13:=zj kd (fun e=>e) y13;have yt:=zj kd (fun e=>e) yt;clear F8 ND OB kd;generalize w8.drew=w9 at *;have NC:=zbq w9 n sb SB (zdR c0) (k:Int) y0 y4 ND9.out.store (by show (1:Nat)<=1000000;omega);rw [zcP CT.out] at NC;have NC:=zf NC;unfold zan at NC;refine zQ rfl ?_;go_wp2_with fail;(with_reducible refine NC.out.mono ?_);rintro e w10 ⟨cv,xs,rfl,hcr,hmp,k10⟩;obtain ⟨ca1,cc1,rfl⟩:=zl hcr.row;have hx1:xs.length=1:=by have:=congrArg List.length hmp;simpa using this
      rw [hx1];have F10:=zf (F9.out.still k10);have ND10:=zf (ND9.out.chg k10 (fun _ _ e=>e));have y1:=zj k10 (fun e=>e) y1;have y4:=zj k10 (fun e=>e) y4;have y5:=zj k10 (fun e=>e) y5;have y9:=zj k10 (fun e=>e) y9;have y10:=zj k10 (fun e=>e) y10;have y12:=zj k10 (fun e=>e) y12;have y13:=zj k10 (fun e=>e) y13;have yt:=zj k10 (fun e=>e) yt;clear hx1 hcr hmp k10 F9 ND9 NC y0;go_wp2_with fail;refine ⟨⟨y1,y4,y5,y12,y13,yt,zf F10.out.mpk⟩,?_⟩;refine zJ (A:=?A2) ?h2a ?h2b
      case h2a=>
       rintro w' ⟨z1,z4,z5,z12,z13,zt,zm⟩ K hK;have em:=EM.out;simp only [zS,zls,zlt,zlu,zlv,zlw]
       repeat still_step
       still_call ((zdY w' n tb z1 zt).mono fun _ _ h=>⟨h.1,h.2.symm⟩)
       repeat still_step
       still_call ((zdZ w' n z12).mono fun _ _ h=>⟨h.1,h.2.symm⟩)
       repeat still_step
       still_call ((zb0 w' n z13).mono fun _ _ h=>⟨h.1,h.2.symm⟩)
       repeat still_step
       refine wpStill_nil ?_;exact hK
      have RA:=zf (zfo w10 ⟨(m:Int),objs⟩ n 3 oa' oc' GG y9 y10 ND10.out.objs (fun q hq=>(ND10.out.low.2.2.2.2 q hq).2) (fun o ho=>Yv ((yE.1 HRk.out).2.2.2 o ho)) (by have:=(yE.1 HRk.out).2.2.1;show objs.length<=6;simp only at this;omega));refine zQ rfl ?_;go_wp2_with fail;(with_reducible refine RA.out.mono ?_);rintro e w11 ⟨rv,rfl,⟨rov,rfl,_⟩,k11⟩;have F11:=zf (F10.out.still k11);have ND11:=zf (ND10.out.chg k11 (fun _ _ e=>e));have y1:=zj k11 (fun e=>e) y1;have y4:=zj k11 (fun e=>e) y4;have y5:=zj k11 (fun e=>e) y5;have y12:=zj k11 (fun e=>e) y12;have y13:=zj k11 (fun e=>e) y13;have yt:=zj k11 (fun e=>e) yt;clear k11 F10 ND10 RA y9 y10;go_wp2_with fail;refine ⟨⟨y1,y4,y5,y12,y13,yt,zf F11.out.mpk⟩,?_⟩;refine zJ (A:=?A3) ?h3a ?h3b
      case h3a=>
       rintro w' ⟨z1,z4,z5,z12,z13,zt,zm⟩ K hK;have em:=EM.out;have fb:=Tryz.fieldBoot (.int .i64 (m:Int)) rov
       iterate 7 (refine Xv rfl ?_;still_step)
       refine Xv rfl ?_
       still_call ((zfD w' n (k:Int) z4).mono fun _ _ h=>⟨h.1,h.2.symm⟩)
       iterate 3 (refine Xv rfl ?_;still_step)
       refine wpStill_nil ?_;exact hK
      refine Za ?_
      as_aux_lemma=>
      have NK:=zf (xp w11 n key y5);clear y1 y12 y13 yt g8 g8' g16 g16' EM KF y4;go_wp2_with fail;(with_reducible refine NK.out.mono ?_);rintro e w11' ⟨rfl,rfl⟩;clear NK y5;go_wp2_with (at_mapUpdate;refine yk rfl (.tmp 151) (.tmp 155) (.const (.bool true)) 106 rfl 58 4 Tryz.atomKeyed Tryz.underlying106 w6.heap.size nk fk rfl F11.out.mpk ?p1 _ _ (XU key) rfl rfl (XG key (by omega)) ?_)
      case p1=>have:=F11.out.lk;unfold maxLen;omega
      intro w12 nk' hm12 _ _ hn12 k12;have F12:=zf (F11.out.key hm12 hn12 (by rw [<- HM.out];exact HKEY.out) k12);have ND12:=zf (ND11.out.chg k12 (fun y hy e=>by have:=F11.out.ord;omega));clear hm12 hn12 k12 F11 ND11
      obtain ⟨bs,bo,hla,_,_,hx256⟩:∃ g o,la=some ⟨g,o,none⟩∧g < w.heap.size∧w.cell? ⟨g,o+k,none⟩=some (.int .u8 (x:Int))∧x < 256:=by
       obtain ⟨_,_,e,_,h3⟩:=HO.out;cases e;exact h3 k x HX.out
      subst hla;obtain ⟨xr,hxr⟩:∃ xr,xr=x % 42:=⟨_,rfl⟩;have hxr2:xr < 42:=by omega
      have ER:=zf (show (x:Int) % 42=(xr:Int) by omega);have ERT:=zf (show Int.tmod (x:Int) 42=(xr:Int) by rw [Int.tmod_eq_emod_of_nonneg (by omega)];omega);have EW:=zf (show IntKind.u8.wrap (xr:Int)=(xr:Int) by rw [IntKind.wrap_u8];omega);clear hxr;have IN0:=zf (And.intro F12.out (And.intro ND12.out HAP.out));clear F12 ND12 HAP;go_wp2_with fail;go_loopw [16] (fun jv wr=>∃ (j:Nat) (lv:Value) (LC:List Value) (BB:Nat->Prop) (L:List (Nat × ByteArray)) (fc:Lit->Option Value) (nc:Nat),j<=xr∧jv=.int .i64 j∧Hid (Fr w wr B w4.heap.size w6.heap.size (w6.heap.size+1) w7.heap.size iN k (k+1) (k+1) j objs (num+1) (1 - half) BB L d8 (zay fk (XU key) (some (.bool true))) fc nk' nc∧ziQ wr n bz ⟨sb,tb,tg,cb,jb,w4.heap.size,iN,(k:Int),key,(m:Int),oa',oc',objs,lv,zdR c0,SB,GG⟩∧wr.ownsRow 0 170 3 lv (min j 40) LC∧(∀ q,lv.ownBlock=some q->zeY ⟨sb,tb,tg,cb,jb,w4.heap.size,iN,(k:Int),key,(m:Int),oa',oc',objs,lv,zdR c0,SB,GG⟩ n bz BB q)∧ze0 ⟨sb,tb,tg,cb,jb,w4.heap.size,iN,(k:Int),key,(m:Int),oa',oc',objs,lv,zdR c0,SB,GG⟩ n BB)) (fun jv _=>xr - (intOf jv).toNat)
      case atStart=>exact ⟨0,.slice none 0 0,[],_,_,_,_,by omega,rfl,zf ⟨IN0.out.1,IN0.out.2.1,World.ownsRow_nil _ _ _ _,(fun q e=>by cases e),IN0.out.2.2⟩⟩
      case round=>
       as_aux_lemma=>
       obtain ⟨j,lv,LC,BBj,Lj,fcj,ncj,hjx,rfl,HI⟩:=hrel;obtain ⟨ow1,ow2⟩:=OR.out wr HI.out.1.chg;obtain ⟨_,_,eo,_,h3⟩:=ow1;cases eo;obtain ⟨_,_,eg,_,cx,_⟩:=h3 k x HX.out;cases eg;have KB:=zf ow2;clear ow2 h3 IN0;have er:=ER.out;have ert:=ERT.out;have ew:=EW.out;by_cases hlj:j < xr
       ·have g6:decide ((j:Int) < (xr:Int))=true:=zlx (by omega)
        have ONF:=zf HI.out.2.1;have ob:=HI.out.2.1.obj;unfold zb2 at ob;simp only at ob;have hbn:bz<=n:=HI.out.2.1.low.1;have hnw:n < wr.heap.size:=zu ob;have hbase:=HI.out.1.size;by_cases hj40:40<=j
        ·as_aux_lemma=>
         have y3:wr.cell? ⟨n,3,none⟩=some (.int .i64 (iN:Int)):=zg (o:=3) ob rfl;have y6:wr.cell? ⟨n,6,none⟩=some (.bool false):=zg (o:=6) ob rfl;have y11:wr.cell? ⟨n,11,none⟩=some lv:=zg (o:=11) ob rfl;obtain ⟨lva,lvc,rfl⟩:=zl HI.out.2.2.1;have g40:decide (40<=(j:Int))=true:=zlx (by omega);have MN:=zf (fun (tn:Int) (h0:0<=tn) (h2:tn < 3) (hne:tn≠(iN:Int))=>zb1 wr n iN (min j 40) tn 1 lva lvc y3 y6 y11 h0 h2 hne ⟨by omega,by omega⟩ (by omega));clear ob y3 y6 y11;rcases (by omega:iN<=0∨1<=iN) with hi0 | hi0
         ·have u0:((iN:Int) == 0)=true:=by rw [beq_iff_eq];omega
          have u1:decide ((iN:Int)=0)=true:=zlx (by omega);have M1:=zf (MN.out 1 (by omega) (by omega) (by omega));go_wp2_with fail;(with_reducible refine M1.out.mono ?_);rintro e w13 ⟨rfl,k13⟩;have ka:=k13.trans (zi (fun _=>False) w13 (.cells #[.int .i64 0,.int .i64 0,.string ⟨#[]⟩] 47));have IN1:=zf (show _∧_∧_∧_∧_ from ⟨(HI.out.1.still ka).more,HI.out.2.1.chg ka (fun _ _ e=>e),zo HI.out.2.2.1 ka (fun _ _ e=>e),HI.out.2.2.2.1,HI.out.2.2.2.2⟩);clear M1 MN HI KB ka k13 cx;go_wp2;go_roundw
          case rel=>exact ⟨j+1,_,_,_,_,_,_,by omega,by go_num,zf ⟨IN1.out.1,IN1.out.2.1,by rw [show min (j+1) 40=min j 40 by omega];exact IN1.out.2.2.1,IN1.out.2.2.2.1,IN1.out.2.2.2.2⟩⟩
          case measure=>simp [intOf];omega
         ·have u0:((iN:Int) == 0)=false:=by rw [zlI];omega
          have u1:decide ((iN:Int)=0)=false:=zly (by omega);have M1:=zf (MN.out 0 (by omega) (by omega) (by omega));go_wp2_with fail;(with_reducible refine M1.out.mono ?_);rintro e w13 ⟨rfl,k13⟩;have ka:=k13.trans (zi (fun _=>False) w13 (.cells #[.int .i64 0,.int .i64 0,.string ⟨#[]⟩] 47));have IN1:=zf (show _∧_∧_∧_∧_ from ⟨(HI.out.1.still ka).more,HI.out.2.1.chg ka (fun _ _ e=>e),zo HI.out.2.2.1 ka (fun _ _ e=>e),HI.out.2.2.2.1,HI.out.2.2.2.2⟩);clear M1 MN HI KB ka k13 cx;go_wp2;go_roundw
          case rel=>exact ⟨j+1,_,_,_,_,_,_,by omega,by go_num,zf ⟨IN1.out.1,IN1.out.2.1,by rw [show min (j+1) 40=min j 40 by omega];exact IN1.out.2.2.1,IN1.out.2.2.2.1,IN1.out.2.2.2.2⟩⟩
          case measure=>simp [intOf];omega
        ·as_aux_lemma=>
         have hj39:j < 40:=by omega
         have g40:decide (40<=(j:Int))=false:=zly (by omega);have hmin:min j 40=j:=by omega
         have hmin2:min (j+1) 40=j+1:=by omega
         have RW:=zf (show wr.ownsRow 0 170 3 lv j LC by have:=HI.out.2.2.1;rw [hmin] at this;exact this);obtain ⟨c,hc⟩:∃ c,c=16385+50*(41*iN+m)+j:=⟨_,rfl⟩;have hc2:c / 8192=2:=by omega
         have hc6:c < 65536:=by omega
         have HC:=zf hc;have EMIN:=zf hmin2;have hk8:key / 8192=1:=by omega
         have HO1:=HI.out;have NO:=zf (fun (tn:Nat) (htn:tn < 3) (hne:tn≠iN)=>zgM wr n bz ⟨sb,tb,tg,cb,jb,w4.heap.size,iN,(k:Int),key,(m:Int),oa',oc',objs,lv,zdR c0,SB,GG⟩ tn 1 m j LC BBj Lj [] c0 HO1.2.1 hiN hk8 ⟨by show (0:Int)<=(k:Int);omega,by show (k:Int)<=2305843009213693952;omega⟩ rfl (by omega) htn hne ⟨by omega,by omega⟩ RW.out hj39 HO1.2.2.2.1 (by omega) HO1.1.book HO1.2.2.2.2 rfl CB.out CT.out (by have:=HO1.1.len;omega));unfold zhG at NO;simp only at NO;rw [<- hc] at NO;clear hmin hmin2 hc ob HO1;have hjn:ncj<=50*k+j:=HI.out.1.lc;have CHN:=zf HI.out.1.chans;rcases (by omega:iN<=0∨1<=iN) with hi0 | hi0
         ·as_aux_lemma=>
          have u0:((iN:Int) == 0)=true:=by rw [beq_iff_eq];omega
          have u1:decide ((iN:Int)=0)=true:=zlx (by omega);have N1:=NO.out 1 (by omega) (by omega);rw [show ((1:Nat):Int)=1 from rfl] at N1;have N1:=zf N1;have W1:=zf (show Zj (Yw iN key c (k:Int) (3*1+1))=true from zcg hiN hk8 hc2 ⟨by omega,by omega⟩ ⟨by omega,by omega⟩);generalize Yw iN key c (k:Int) (3*1+1)=c1 at *;obtain ⟨S,hS⟩:∃ S:ByteArray,S=⟨(Yu c [c0,c1]).toArray⟩:=⟨_,rfl⟩;rw [<- hS] at N1;have SD:=zf (show S.data.toList=Yu c [c0,c1] by rw [hS])
          have SZ:=zf (show S.size<=4000 by
           have:=(zkO (P:=[(c0,Value.bool true),(c1,Value.bool true)]) c hc6 (by show 2<=8;omega) (fun p hp=>by
            rcases List.mem_cons.1 hp with rfl | hp
            ·exact CB.out
            ·rw [List.mem_singleton] at hp;subst hp;exact W1.out)).2
           rw [hS];exact this)
          clear hS NO;go_wp2_with fail;(with_reducible refine N1.out.mono ?_);rintro e w13 ⟨lv',LC',BB',rfl,nd',row',sep',bk',hbb',ap',k13⟩;have F13:=zf (HI.out.1.opened (lo:=bz) hb8 hbn (fun q e=>(HI.out.2.2.2.1 q e).1) bk' hbb' k13);have I13:=zf (And.intro nd' (And.intro row' (And.intro sep' ap')));have kl:=zi (fun _=>False) w13 (.cells #[.int .i64 (iN:Int),.int .i64 1,.string S] 47);have OL:=zh w13 (.cells #[.int .i64 (iN:Int),.int .i64 1,.string S] 47);have cl2:(w13.alloc (.cells #[.int .i64 (iN:Int),.int .i64 1,.string S] 47)).cell? ⟨w13.heap.size,2,none⟩=some (.string S):=zg (o:=2) OL rfl;have KL:=zf kl
          have RD:=zf (zcK (w13.alloc (.cells #[.int .i64 (iN:Int),.int .i64 1,.string S] 47)) c [c0,c1] S SD.out hc2 (by show 2<=8;omega) (fun q hq=>by
           rcases List.mem_cons.1 hq with rfl | hq
           ·exact CB.out
           ·rw [List.mem_singleton] at hq;subst hq;exact W1.out) SZ.out)
          clear nd' row' sep' bk' hbb' ap' k13 kl OL N1 HI KB cx SD SZ;go_wp2_with fail;(with_reducible refine RD.out.mono ?_);rintro e w15 ⟨ca,cn,cc,rfl,k15⟩;have km:=zi (fun _=>False) w15 (.cells #[.int .i64 1,.int .u16 (c:Int),.int .i64 0,.int .i64 0,.int .i64 0,.int .i64 0,.int .i64 0,.slice none 0 0,.int .i64 0,.int .i64 0,.string ⟨#[]⟩,.slice ca cn cc] 61);have OM:=zh w15 (.cells #[.int .i64 1,.int .u16 (c:Int),.int .i64 0,.int .i64 0,.int .i64 0,.int .i64 0,.int .i64 0,.slice none 0 0,.int .i64 0,.int .i64 0,.string ⟨#[]⟩,.slice ca cn cc] 61);have cm0:(w15.alloc (.cells #[.int .i64 1,.int .u16 (c:Int),.int .i64 0,.int .i64 0,.int .i64 0,.int .i64 0,.int .i64 0,.slice none 0 0,.int .i64 0,.int .i64 0,.string ⟨#[]⟩,.slice ca cn cc] 61)).cell? ⟨w15.heap.size,0,none⟩=some (.int .i64 1):=zg (o:=0) OM rfl;have cm1:(w15.alloc (.cells #[.int .i64 1,.int .u16 (c:Int),.int .i64 0,.int .i64 0,.int .i64 0,.int .i64 0,.int .i64 0,.slice none 0 0,.int .i64 0,.int .i64 0,.string ⟨#[]⟩,.slice ca cn cc] 61)).cell? ⟨w15.heap.size,1,none⟩=some (.int .u16 (c:Int)):=zg (o:=1) OM rfl;have kk:=(KL.out.trans k15).trans km;have F16:=zf (F13.out.still kk);have I16:=zf (And.intro (I13.out.1.chg kk (fun _ _ e=>e)) (And.intro (zo I13.out.2.1 kk (fun _ _ e=>e)) I13.out.2.2));have O16:=zf OM;have hs15:w13.heap.size<=w15.heap.size:=(KL.out.trans k15).size;have hs13:=F13.out.size;clear kk km k15 KL RD F13 I13 cl2 OM;have LK:=F16.out.mpc.look_at Tryz.atomKeyed Tryz.underlying106 (Tryz.zeroBoolF (w15.alloc (.cells #[.int .i64 1,.int .u16 (c:Int),.int .i64 0,.int .i64 0,.int .i64 0,.int .i64 0,.int .i64 0,.slice none 0 0,.int .i64 0,.int .i64 0,.string ⟨#[]⟩,.slice ca cn cc] 61))) (XG c hc6) (CHN.out.fresh (by rw [<- HM.out];exact HC.out) hj39 hc6);go_wp2_with (at_mapUpdate;refine yk rfl (.tmp 201) (.tmp 203) (.const (.bool true)) 106 rfl 58 4 Tryz.atomKeyed Tryz.underlying106 (w6.heap.size+1) ncj fcj rfl F16.out.mpc (by have:=hjn;unfold maxLen;omega) _ _ (XU c) rfl rfl (XG c hc6) ?_);intro w17 nc' hm17 _ _ hn17 k17;have F17:=zf (F16.out.chan CHN.out hjn hm17 hn17 (by rw [<- HM.out];exact HC.out) hj39 k17);have nd17:=I16.out.1.chg k17 (fun q hq e=>by omega);have I17:=zf (And.intro nd17 (And.intro (zo I16.out.2.1 k17 (fun q hq e=>by have:=(I16.out.2.2.1 q hq).1;omega)) I16.out.2.2));have cm1:=zg (o:=1) (k17.obj (fun e=>by omega) O16.out) rfl;have y5:w17.cell? ⟨n,5,none⟩=some (.int .u16 (key:Int)):=zg (o:=5) nd17.obj rfl;have eK:zgH c=(key,true):=by rw [HC.out,zgF hiN m1 m40 hj39,<- HKEY.out]
          have OW:=zcN w17 c hc6;rw [eK] at OW;have OW:=zf OW;have NK:=zf (xp w17 n key y5);clear F16 I16 hm17 hn17 k17 nd17 y5 eK O16 CHN LK cm0;go_wp2_with fail;(with_reducible refine OW.out.mono ?_);rintro e w18 ⟨rfl,rfl⟩;go_wp2_with fail;(with_reducible refine NK.out.mono ?_);rintro e w19 ⟨rfl,rfl⟩;clear OW NK cm1;go_wp2;go_roundw
          case rel=>exact ⟨j+1,lv',LC',_,_,_,_,by omega,by go_num,zf ⟨F17.out,I17.out.1,by rw [EMIN.out];exact I17.out.2.1,I17.out.2.2.1,I17.out.2.2.2⟩⟩
          case measure=>simp [intOf];omega
         ·as_aux_lemma=>
          have u0:((iN:Int) == 0)=false:=by rw [zlI];omega
          have u1:decide ((iN:Int)=0)=false:=zly (by omega);have N1:=NO.out 0 (by omega) (by omega);rw [show ((0:Nat):Int)=0 from rfl] at N1;have N1:=zf N1;have W1:=zf (show Zj (Yw iN key c (k:Int) (3*1+0))=true from zcg hiN hk8 hc2 ⟨by omega,by omega⟩ ⟨by omega,by omega⟩);generalize Yw iN key c (k:Int) (3*1+0)=c1 at *;obtain ⟨S,hS⟩:∃ S:ByteArray,S=⟨(Yu c [c0,c1]).toArray⟩:=⟨_,rfl⟩;rw [<- hS] at N1;have SD:=zf (show S.data.toList=Yu c [c0,c1] by rw [hS])
          have SZ:=zf (show S.size<=4000 by
           have:=(zkO (P:=[(c0,Value.bool true),(c1,Value.bool true)]) c hc6 (by show 2<=8;omega) (fun p hp=>by
            rcases List.mem_cons.1 hp with rfl | hp
            ·exact CB.out
            ·rw [List.mem_singleton] at hp;subst hp;exact W1.out)).2
           rw [hS];exact this)
          clear hS NO;go_wp2_with fail;(with_reducible refine N1.out.mono ?_);rintro e w13 ⟨lv',LC',BB',rfl,nd',row',sep',bk',hbb',ap',k13⟩;have F13:=zf (HI.out.1.opened (lo:=bz) hb8 hbn (fun q e=>(HI.out.2.2.2.1 q e).1) bk' hbb' k13);have I13:=zf (And.intro nd' (And.intro row' (And.intro sep' ap')));have kl:=zi (fun _=>False) w13 (.cells #[.int .i64 (iN:Int),.int .i64 0,.string S] 47);have OL:=zh w13 (.cells #[.int .i64 (iN:Int),.int .i64 0,.string S] 47);have cl2:(w13.alloc (.cells #[.int .i64 (iN:Int),.int .i64 0,.string S] 47)).cell? ⟨w13.heap.size,2,none⟩=some (.string S):=zg (o:=2) OL rfl;have KL:=zf kl
          have RD:=zf (zcK (w13.alloc (.cells #[.int .i64 (iN:Int),.int .i64 0,.string S] 47)) c [c0,c1] S SD.out hc2 (by show 2<=8;omega) (fun q hq=>by
           rcases List.mem_cons.1 hq with rfl | hq
           ·exact CB.out
           ·rw [List.mem_singleton] at hq;subst hq;exact W1.out) SZ.out)
          clear nd' row' sep' bk' hbb' ap' k13 kl OL N1 HI KB cx SD SZ;go_wp2_with fail;(with_reducible refine RD.out.mono ?_);rintro e w15 ⟨ca,cn,cc,rfl,k15⟩;have km:=zi (fun _=>False) w15 (.cells #[.int .i64 1,.int .u16 (c:Int),.int .i64 0,.int .i64 0,.int .i64 0,.int .i64 0,.int .i64 0,.slice none 0 0,.int .i64 0,.int .i64 0,.string ⟨#[]⟩,.slice ca cn cc] 61);have OM:=zh w15 (.cells #[.int .i64 1,.int .u16 (c:Int),.int .i64 0,.int .i64 0,.int .i64 0,.int .i64 0,.int .i64 0,.slice none 0 0,.int .i64 0,.int .i64 0,.string ⟨#[]⟩,.slice ca cn cc] 61);have cm0:(w15.alloc (.cells #[.int .i64 1,.int .u16 (c:Int),.int .i64 0,.int .i64 0,.int .i64 0,.int .i64 0,.int .i64 0,.slice none 0 0,.int .i64 0,.int .i64 0,.string ⟨#[]⟩,.slice ca cn cc] 61)).cell? ⟨w15.heap.size,0,none⟩=some (.int .i64 1):=zg (o:=0) OM rfl;have cm1:(w15.alloc (.cells #[.int .i64 1,.int .u16 (c:Int),.int .i64 0,.int .i64 0,.int .i64 0,.int .i64 0,.int .i64 0,.slice none 0 0,.int .i64 0,.int .i64 0,.string ⟨#[]⟩,.slice ca cn cc] 61)).cell? ⟨w15.heap.size,1,none⟩=some (.int .u16 (c:Int)):=zg (o:=1) OM rfl;have kk:=(KL.out.trans k15).trans km;have F16:=zf (F13.out.still kk);have I16:=zf (And.intro (I13.out.1.chg kk (fun _ _ e=>e)) (And.intro (zo I13.out.2.1 kk (fun _ _ e=>e)) I13.out.2.2));have O16:=zf OM;have hs15:w13.heap.size<=w15.heap.size:=(KL.out.trans k15).size;have hs13:=F13.out.size;clear kk km k15 KL RD F13 I13 cl2 OM;have LK:=F16.out.mpc.look_at Tryz.atomKeyed Tryz.underlying106 (Tryz.zeroBoolF (w15.alloc (.cells #[.int .i64 1,.int .u16 (c:Int),.int .i64 0,.int .i64 0,.int .i64 0,.int .i64 0,.int .i64 0,.slice none 0 0,.int .i64 0,.int .i64 0,.string ⟨#[]⟩,.slice ca cn cc] 61))) (XG c hc6) (CHN.out.fresh (by rw [<- HM.out];exact HC.out) hj39 hc6);go_wp2_with (at_mapUpdate;refine yk rfl (.tmp 201) (.tmp 203) (.const (.bool true)) 106 rfl 58 4 Tryz.atomKeyed Tryz.underlying106 (w6.heap.size+1) ncj fcj rfl F16.out.mpc (by have:=hjn;unfold maxLen;omega) _ _ (XU c) rfl rfl (XG c hc6) ?_);intro w17 nc' hm17 _ _ hn17 k17;have F17:=zf (F16.out.chan CHN.out hjn hm17 hn17 (by rw [<- HM.out];exact HC.out) hj39 k17);have nd17:=I16.out.1.chg k17 (fun q hq e=>by omega);have I17:=zf (And.intro nd17 (And.intro (zo I16.out.2.1 k17 (fun q hq e=>by have:=(I16.out.2.2.1 q hq).1;omega)) I16.out.2.2));have cm1:=zg (o:=1) (k17.obj (fun e=>by omega) O16.out) rfl;have y5:w17.cell? ⟨n,5,none⟩=some (.int .u16 (key:Int)):=zg (o:=5) nd17.obj rfl;have eK:zgH c=(key,true):=by rw [HC.out,zgF hiN m1 m40 hj39,<- HKEY.out]
          have OW:=zcN w17 c hc6;rw [eK] at OW;have OW:=zf OW;have NK:=zf (xp w17 n key y5);clear F16 I16 hm17 hn17 k17 nd17 y5 eK O16 CHN LK cm0;go_wp2_with fail;(with_reducible refine OW.out.mono ?_);rintro e w18 ⟨rfl,rfl⟩;go_wp2_with fail;(with_reducible refine NK.out.mono ?_);rintro e w19 ⟨rfl,rfl⟩;clear OW NK cm1;go_wp2;go_roundw
          case rel=>exact ⟨j+1,lv',LC',_,_,_,_,by omega,by go_num,zf ⟨F17.out,I17.out.1,by rw [EMIN.out];exact I17.out.2.1,I17.out.2.2.1,I17.out.2.2.2⟩⟩
          case measure=>simp [intOf];omega
       ·obtain rfl:j=xr:=by omega
        have CR:=zf (zhh wr B d8 keep (.slice ka' keep.length kc) (· < w.heap.size) HI.out.1.dev (fun q h1 h2=>by have:=(HI.out.1.dv.2 q h2).1;omega) KB.out);unfold DB.ptr at *;go_wp2_with fail;(with_reducible refine CR.out.mono ?_);rintro e w13 ⟨rfl,d13,k13⟩;have F13:=zf (HI.out.1.crash (by omega) d13 k13);clear CR d13 k13 HI KB cx;go_wp2;go_roundw
        case rel=>exact ⟨k+1,1 - half,num+1,_,_,_,_,_,_,_,by omega,by omega,by go_num,F13⟩
        case measure=>simp [intOf];omega
    ·have g3:decide ((k:Int) < (ol.length:Int))=false:=zly (by omega)
     have CF:=zf FK.out.chg;clear FK;go_wp2;go_ret;exact ⟨rfl,FINE.out _ CF.out⟩
  ·have tn1:(c != 0)=true:=by simpa using hc0
   have tn2:(c == 0)=false:=by simpa using hc0
   have tn3:decide (c=0)=false:=by simpa using hc0
   go_wp2;go_ret;exact ⟨rfl,FINE.out _ C6.out⟩
end Go.Proofs.YtcilaocknhphnaaGreat
