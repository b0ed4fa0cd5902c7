/-
  Package record: Decode, of a record's bytes.
-/
import Derived.Test.YtcilaocknhphnaaGreatZgRBase
import Derived.Test.YtcilaocknhphnaaGreatZgCSet
import Derived.Test.YtcilaocknhphnaaGreatZgNGrow
import Derived.Test.YtcilaocknhphnaaGreatZgNLet3
namespace Go.Proofs.YtcilaocknhphnaaGreat
open Go.RowKit Go.Maps
theorem zc4 {α:Type} {f:α->List UInt8} {l:List α} {k:Nat} {x:α} (hx:l[k]? = some x):(l.drop k).flatMap f=f x++(l.drop (k+1)).flatMap f:=by
 obtain ⟨h1,h2⟩:=zlA.1 hx;rw [List.drop_eq_getElem_cons h1,h2];rfl
theorem zfw {w:World} {base:Nat} {e:TypeId} {size n n' c:Nat} {xs:List Value} {a:Option Addr} (h:w.ownsRow base e size (.slice a n' c) n xs):(a=none∧c=0)∨∃ g,a=some ⟨g,0,none⟩∧base<=g∧g < w.heap.size:=by
 obtain ⟨_,⟨e,_⟩ | ⟨g,cap,cur,e,hb,hg,_⟩⟩:=h
 ·cases e;exact .inl ⟨rfl,rfl⟩
 ·cases e;exact .inr ⟨g,rfl,hb,zu hg⟩
set_option maxHeartbeats 8000000 in
set_option maxRecDepth 100000 in
theorem zbi (w:World) (r:zcn) (s:ByteArray) (hs:s.data.toList=YI r) (hr:xF r=true) (hz:s.size<=1000000):
  Calls Tryz.prog 58 #[.string s] w fun e w'=>∃ oa oc,e=.returned (.tuple #[.agg #[.int .i64 r.boot,.slice oa r.objs.length oc],.int .i64 0])∧ZC w' (.slice oa r.objs.length oc) (fun k=>w.heap.size<=k∧k < w'.heap.size) r.objs∧((oa=none∧oc=0)∨∃ g,oa=some ⟨g,0,none⟩∧w.heap.size<=g∧g < w'.heap.size)∧Chg (fun _=>False) w w':=by
 have HR:=zf hr;obtain ⟨m1,m2,m3,m4⟩:=yE.1 hr;have M4:=zf m4;have hd0:s.data.toList.drop 0=zW r.boot.toNat++(zW r.objs.length++r.objs.flatMap zcm):=by rw [List.drop_zero,hs];rfl
 have MAY:=zf (fun (W:World) oa oc G (h:ZC W (.slice oa r.objs.length oc) G r.objs)=>zbg W r oa oc G h (fun o ho=>by have:=(Yv (m4 o ho)).2;omega));clear hs hr m4;obtain ⟨boot,objs⟩:=r;simp only at *;obtain ⟨bo,rfl⟩:∃ bo:Nat,boot=(bo:Int):=⟨boot.toNat,by omega⟩;rw [show ((bo:Int)).toNat=bo from by omega] at hd0;have HD0:=zf hd0;have FR:=zf (ziu (w.alloc (.cells #[.int .i64 0,.slice none 0 0] 40)) s);have ka:=zi (fun _=>False) w (.cells #[.int .i64 0,.slice none 0 0] 40);have OA:=zf (zh w (.cells #[.int .i64 0,.slice none 0 0] 40));have KA:=zf ka;have za:w.heap.size < (w.alloc (.cells #[.int .i64 0,.slice none 0 0] 40)).heap.size:=by rw [zlH];omega
 clear hd0 ka;go_enter Tryz.func58,Tryz.ntmps58;go_wp2_with fail;generalize hA0:w.heap.size=A0 at *;have HA0:=zf hA0;clear hA0;generalize w.alloc (.cells #[.int .i64 0,.slice none 0 0] 40)=w1 at *;(with_reducible refine FR.out.mono ?_);rintro e w2 ⟨rfl,i2,k2,z2⟩;generalize hI:w1.heap.size=I at *;clear hI;have OA2:=zf (k2.obj (fun e=>e) OA.out);have K2:=zf (KA.out.trans k2);have N1:=zf (xq w2 I s 0 bo 40 _ i2 HD0.out (by omega) (by omega) hz);have hd1:=Zb HD0.out;have ps1:=ZN HD0.out (yd _);have HD1:=zf hd1;clear FR i2 k2 OA KA HD0 hd1;go_wp2_with fail;(with_reducible refine N1.out.mono ?_);rintro e w3 ⟨rfl,i3,k3⟩;have z3:w2.heap.size<=w3.heap.size:=k3.size;have kb:=zi (fun _=>False) w3 (.cells #[.int .i64 (bo:Int),.slice none 0 0] 40);have zb:w3.heap.size < (w3.alloc (.cells #[.int .i64 (bo:Int),.slice none 0 0] 40)).heap.size:=by rw [zlH];omega
 have GO4:=zf (ziZ w3 (bo:Int));have I4:=i3.chg kb (fun e=>e);have OA4:=zf (kb.obj (fun e=>e) (k3.obj (fun e=>by omega) OA2.out));have K4:=zf (show Chg (fun k=>A0<=k) w (w3.alloc (.cells #[.int .i64 (bo:Int),.slice none 0 0] 40)) from ((K2.out.mono (fun _ _ e=>e.elim)).trans (k3.mono (fun k _ e=>by show A0<=k;omega))).trans (kb.mono (fun _ _ e=>e.elim)));have N2:=zf (xq _ I s _ objs.length 4 _ I4 HD1.out (by omega) (by omega) hz);have hd2:=Zb HD1.out;have ps2:=ZN HD1.out (yd _);have HD2:=zf hd2;clear i3 k3 kb OA2 K2 N1 HD1 hd2 I4;go_wp2_with fail;generalize w3.heap.size=R at *;generalize w3.alloc (.cells #[.int .i64 (bo:Int),.slice none 0 0] 40)=w4 at *;(with_reducible refine N2.out.mono ?_);rintro e w5 ⟨rfl,i5,k5⟩;have z5:w4.heap.size<=w5.heap.size:=k5.size;have I5:=zf i5;have GO5:=zf (GO4.out.chg k5 (fun k h1 h2 e=>by omega));have OA5:=zf (k5.obj (fun e=>by omega) OA4.out);have K5:=zf (K4.out.trans (k5.mono (fun k _ e=>by show A0<=k;omega)));generalize (0+(zW bo).length+(zW objs.length).length)=pos at *;clear i5 k5 N2 GO4 OA4 K4 ps1;go_wp2;go_loopw [14] (fun iv wr=>∃ k pos:Nat,k<=objs.length∧iv=.int .i64 (k:Int)∧Hid (s.data.toList.drop pos=(objs.drop k).flatMap zcm∧pos<=s.size∧XW wr I s pos∧GO wr R (bo:Int) (objs.take k))∧Hid (wr.heap[A0]? = some (.cells #[.int .i64 0,.slice none 0 0] 40 (0,0)))∧Hid (Chg (fun k=>A0<=k) w wr)) (fun iv _=>objs.length - (intOf iv).toNat)
 case atStart=>exact ⟨0,pos,by omega,rfl,zf ⟨by simpa using HD2.out,by omega,I5.out,by simpa using GO5.out⟩,OA5,K5⟩
 case round=>
  clear I5 GO5 OA5 K5 HD2 ps2;obtain ⟨k,pos,hk,rfl,HI,HA,HC⟩:=hrel;by_cases hlt:k < objs.length
  ·obtain ⟨o,ho⟩:∃ o,objs[k]? = some o:=⟨_,zlz hlt⟩
   have hob:=M4.out o (zlB ho);obtain ⟨v1,v2,_⟩:=zaj.1 hob;obtain ⟨EB,e12⟩:=Yv hob;have EB:=zf EB;have TK:=zf (show objs.take (k+1)=objs.take k++[o] from by rw [zlR,ho];rfl);obtain ⟨hd,_,hin,hgo⟩:=HI.out;rw [zc4 ho] at hd;generalize hRST:(objs.drop (k+1)).flatMap zcm=RST at *;have HRST:=zf hRST;clear hRST;have hRw:R < wr.heap.size:=by obtain ⟨_,_,q⟩:=hgo;exact zu q.1
   have hIw:=zu hin;obtain ⟨val,ver,ents⟩:=o;simp only at *;obtain ⟨va,rfl⟩:∃ va:Nat,val=(va:Int):=⟨val.toNat,by omega⟩;obtain ⟨vb,rfl⟩:∃ vb:Nat,ver=(vb:Int):=⟨ver.toNat,by omega⟩
   have hd:s.data.toList.drop pos=zW va++(zW vb++(zW ents.length++(ents.flatMap zc8++RST))):=by
    rw [hd];unfold zcm;simp only [List.append_assoc];rfl
   have N1:=zf (xq wr I s pos va 4611686018427387904 _ hin hd (by omega) (by omega) hz);have HD1:=zf (Zb hd);have GO0:=zf hgo;clear hd hin hgo HI hob ho;go_wp2_with fail;(with_reducible refine N1.out.mono ?_);rintro e w6 ⟨rfl,i6,k6⟩;have z6:wr.heap.size<=w6.heap.size:=k6.size;have N2:=zf (xq w6 I s _ vb 4611686018427387904 _ i6 HD1.out (by omega) (by omega) hz);have HD2:=zf (Zb HD1.out);have K6:=zf k6;clear N1 HD1 i6 k6;go_wp2_with fail;(with_reducible refine N2.out.mono ?_);rintro e w7 ⟨rfl,i7,k7⟩;have z7:w6.heap.size<=w7.heap.size:=k7.size;have kb:=zi (fun _=>False) w7 (.cells #[.int .i64 (va:Int),.slice none 0 0,.int .i64 (vb:Int)] 37);have zb:w7.heap.size < (w7.alloc (.cells #[.int .i64 (va:Int),.slice none 0 0,.int .i64 (vb:Int)] 37)).heap.size:=by rw [zlH];omega
   have GE8:=zf (zi0 w7 (va:Int) (vb:Int));have I8:=i7.chg kb (fun e=>e);have K8:=zf (show Chg (fun k=>k=I) wr (w7.alloc (.cells #[.int .i64 (va:Int),.slice none 0 0,.int .i64 (vb:Int)] 37)) from (K6.out.trans k7).trans (kb.mono (fun _ _ e=>e.elim)));have N3:=zf (xq _ I s _ ents.length 12 _ I8 HD2.out (by omega) (by omega) hz);have HD3:=zf (Zb HD2.out);have ps3:=ZN HD2.out (yd _);clear N2 HD2 i7 k7 K6 kb I8;go_wp2_with fail;generalize w7.heap.size=T at *;generalize w7.alloc (.cells #[.int .i64 (va:Int),.slice none 0 0,.int .i64 (vb:Int)] 37)=w8 at *;(with_reducible refine N3.out.mono ?_);rintro e w9 ⟨rfl,i9,k9⟩;have z9:w8.heap.size<=w9.heap.size:=k9.size;have I9:=zf i9;have GE9:=zf (GE8.out.chg k9 (fun k h1 h2 e=>by omega));have K9:=zf (K8.out.trans k9);have hd3:=HD3.out;have hps:pos+(zW va).length+(zW vb).length+(zW ents.length).length<=s.size:=by omega
   generalize pos+(zW va).length+(zW vb).length+(zW ents.length).length=pos2 at *;have HD3:=zf hd3;clear i9 k9 N3 GE8 K8 hd3 ps3;generalize wr=wo at *;go_wp2;go_loopw [23] (fun jv wr=>∃ j pos:Nat,j<=ents.length∧jv=.int .i64 (j:Int)∧Hid (s.data.toList.drop pos=(ents.drop j).flatMap zc8++RST∧pos<=s.size∧XW wr I s pos∧GE wr T (va:Int) (vb:Int) (ents.take j))∧Hid (Chg (fun x=>x=I∨T<=x) w9 wr)) (fun jv _=>ents.length - (intOf jv).toNat)
   case atStart=>exact ⟨0,pos2,by omega,rfl,zf ⟨by simpa using HD3.out,hps,I9.out,by simpa using GE9.out⟩,zf (Chg.refl _ _)⟩
   case round=>
    clear I9 GE9 HD3 hps;obtain ⟨j,pos,hj,rfl,HI,HC9⟩:=hrel;have zr:w9.heap.size<=wr.heap.size:=HC9.out.size;obtain ⟨hd,hps,hin,ev,E,hge⟩:=HI.out;have HGE:=zf hge;have hEl:E.length=j:=by have:=hge.2.2.len;rw [zlE] at this;omega
    have HIN:=zf hin;obtain ⟨ea,ec,rfl⟩:=zl hge.2.1;rw [hEl] at HGE;have c1:=zg (o:=1) HGE.out.1 rfl;by_cases hlt2:j < ents.length
    ·obtain ⟨x,hx⟩:∃ x,ents[j]? = some x:=⟨_,zlz hlt2⟩
     obtain ⟨⟨x1,x2⟩,x3⟩:=Yj.1 (EB.out x (zlB hx));have TX:=zf (show ents.take (j+1)=ents.take j++[x] from by rw [zlR,hx];rfl);rw [zc4 hx] at hd;obtain ⟨op,who⟩:=x;simp only at *;obtain ⟨on,rfl⟩:∃ on:Nat,op=(on:Int):=⟨op.toNat,by omega⟩
     have hd:s.data.toList.drop pos=zW on++(xK who++((ents.drop (j+1)).flatMap zc8++RST)):=by
      rw [hd];unfold zc8;simp only [List.append_assoc];rfl
     generalize hRS:(ents.drop (j+1)).flatMap zc8++RST=RS2 at *;have HRS:=zf hRS;clear hRS
     have SZW:=zf (show ∀ y∈who,y.size<=maxLen from fun y hy=>by
      have:=YY (Zm x3 hy);unfold maxLen;rw [<- zz];omega)
     have kd:=zy (fun _=>False) wr;have N1:=zf (xq wr.drew I s pos on 7 _ (hin.chg kd (fun e=>e)) hd (by omega) (by omega) hz);have HD1:=zf (Zb hd);have HGd:=zf (HGE.out.chg kd (fun k h1 h2 e=>e));have KD:=zf (HC9.out.trans (kd.mono (fun _ _ e=>e.elim)));have zd:w9.heap.size<=wr.drew.heap.size:=zr;clear hd hin hge HI hx kd;go_wp2_with fail;refine Zf (N:=53) [.rd [0,1,2,4],.ef 3,.ef 5,.ef 6,.ef 7,.ef 8,.ef 9,.ef 10] 10 (fun W=>W.cell? ⟨T,1,none⟩=some (.slice ea j ec)) (by kernel_rfl) (by kernel_rfl) (by kernel_rfl) (by kernel_rfl) (by kernel_rfl) (Nat.le_of_ble_eq_true rfl) c1 ?_;refine Yg (A:=?A1) ?h1 ?h2
     case h1=>
      rintro w' z0 K hK;simp only [zS,zls,zlt,zlu,zlv,zlw]
      repeat still_step
      refine wpStill_nil ?_;exact hK
     clear c1 HIN HGE HC9 zr;generalize wr.drew=wd at *;refine zG rfl ?_;go_wp2_with fail;(with_reducible refine N1.out.mono ?_);rintro e wa ⟨rfl,ia,ka⟩;have za:wd.heap.size<=wa.heap.size:=ka.size;have HGa:=zf (HGd.out.chg ka (fun k h1 h2 e=>by omega));have Ka:=zf (KD.out.trans (ka.mono (fun k _ e=>.inl e)));have SE:=zf (zil wa I s _ who _ ia HD1.out x3 hz);have HD2:=zf (Zb HD1.out);have ps4:=ZN HD1.out (by unfold xK;simp);have ca:=zg (o:=1) HGa.out.1 rfl;clear ia ka N1 HGd KD HD1;go_wp2_with fail
     first | refine ⟨.inr ca,?_⟩ | refine ⟨ca,?_⟩
     refine zG rfl ?_;go_wp2_with fail;(with_reducible refine SE.out.mono ?_);rintro e wb ⟨sv,rfl,ob,ib,kb⟩;have zb:wa.heap.size<=wb.heap.size:=kb.size;have HGb:=zf (HGa.out.chg kb (fun k h1 h2 e=>by omega));have Kb:=zf (Ka.out.trans (kb.mono (fun k _ e=>.inl e)))
     have SA:=zf ((ya ob SZW.out).up (G':=fun k=>T < k∧k < wb.heap.size∧(Value.slice ea j ec).ownBlock≠some k) (fun k hk=>by
      have h1:=ob.lt k hk;have h2:T < wa.heap.size:=zu HGa.out.1;exact ⟨by omega,h1.2,fun e=>by have:=(HGa.out.ne e).2;omega⟩))
     have Ib:=zf ib;have cb:=zg (o:=1) HGb.out.1 rfl;obtain ⟨sa,sc,rfl⟩:=zl ob;clear ib ob kb SE HGa Ka ca;go_wp2_with fail
     first | refine ⟨.inr cb,?_⟩ | refine ⟨cb,?_⟩
     refine zG rfl ?_;go_wp2_with fail
     first | refine ⟨.inr cb,?_⟩ | refine ⟨cb,?_⟩
     refine zG rfl ?_;have kc:=zi (fun _=>False) wb (.cells #[.int .i64 (on:Int),.slice sa who.length sc] 34);have zc:wb.heap.size < (wb.alloc (.cells #[.int .i64 (on:Int),.slice sa who.length sc] 34)).heap.size:=by rw [zlH];omega
     have HGc:=zf (HGb.out.chg kc (fun k h1 h2 e=>e));have SAc:=zf ((SA.out.chg kc (fun k hk e=>e)).up (G':=fun k=>T < k∧k < (wb.alloc (.cells #[.int .i64 (on:Int),.slice sa who.length sc] 34)).heap.size∧(Value.slice ea j ec).ownBlock≠some k) (fun k hk=>⟨hk.1,by omega,hk.2.2⟩));have Ic:=zf (Ib.out.chg kc (fun e=>e));have Kc:=zf (Kb.out.trans (kc.mono (fun _ _ e=>e.elim)));have OX:=zf (zh wb (.cells #[.int .i64 (on:Int),.slice sa who.length sc] 34));have cc:=zg (o:=1) HGc.out.1 rfl;have hTb:T < wb.heap.size:=zu HGb.out.1;clear kc HGb SA Ib Kb cb;go_wp2_with fail;generalize hXX:wb.heap.size=X at *;have HX:=zf hXX;clear hXX;generalize wb.alloc (.cells #[.int .i64 (on:Int),.slice sa who.length sc] 34)=wc at *
     first | refine ⟨.inr cc,?_⟩ | refine ⟨cc,?_⟩
     refine zG rfl ?_;have OWN:=HGc.out.2.1;rw [hEl] at OWN;refine zK rfl (.tmp 26) (.tmp 32) 35 rfl 34 2 32 Tryz.underlying35 Tryz.elemEntry T (.slice ea j ec) j (ZB E) rfl OWN X [.int .i64 (on:Int),.slice sa who.length sc] 34 (0,0) rfl OX.out rfl (by intro u hu;simp at hu;rcases hu with rfl | rfl <;> rfl) (by omega) (by unfold maxLen;omega) (by omega) ?_;intro v5 w10 o5 g5 sn;obtain ⟨a5,c5,rfl⟩:=zl o5;obtain ⟨p1,p2⟩:=HGc.out.push (x:=((on:Int),who)) (ev':=.slice a5 (j+1) c5) SAc.out (by rw [hEl];exact o5) (Chg.of_grown g5) sn;rw [<- TX.out] at p1;have P1:=zf p1;have P2:=zf (Kc.out.trans (p2.mono (fun k _ e=>.inr e)));have P3:=zf (Ic.out.chg p2 (fun (e:T<=I)=>by omega));have h10:=(Chg.of_grown g5).obj (fun e=>by have:=(HGc.out.ne e).1;omega) HGc.out.1;have q1:=zg (o:=1) h10 rfl;have f1:=zk (o:=1) h10;clear p1 p2 o5 g5 sn OWN OX HGc SAc Ic Kc cc h10;go_wp2_with fail
     first | refine ⟨.inr q1,?_⟩ | refine ⟨q1,?_⟩
     refine zG rfl ?_;go_wp2_with fail
     first | refine ⟨.inr q1,?_⟩ | refine ⟨q1,?_⟩
     refine zG rfl ?_;refine Zw rfl 35 (.tmp 34) (.tmp 33) rfl T 1 rfl (.slice a5 (j+1) c5) rfl rfl rfl Tryz.sizeEntries _ q1 f1 ?_;intro w11 hw11;rw [<- hw11] at P1 P2 P3
     first | refine ⟨.inl rfl,ZM ?_⟩ | (unfold xz;refine ZM ?_)
     clear hw11 q1 f1;go_wp2;go_roundw
     case rel=>exact ⟨j+1,_,by omega,by go_num,zf ⟨by rw [HRS.out];exact HD2.out,by omega,P3.out,_,_,P1.out⟩,P2⟩
     case measure=>simp [intOf];omega
    ·obtain rfl:j=ents.length:=by omega
     have hd2:s.data.toList.drop pos=RST:=by rw [hd,List.drop_length];rfl
     have HD2:=zf hd2;have hwT:wo.heap.size<=T:=by omega
     have KW:=zf (show Chg (fun x=>x=I∨T<=x) wo wr from (K9.out.mono (fun _ _ e=>.inl e)).trans HC9.out);have hgo:=GO0.out;obtain ⟨ov,EO,hgo0⟩:=hgo;obtain ⟨oa,oc,rfl⟩:=zl hgo0.2.1;have hEO:EO.length=k:=by have:=hgo0.2.2.len;rw [zlE] at this;omega
     have OVT:=zf (fun q (hq:(Value.slice oa EO.length oc).ownBlock=some q)=>show q < T from by have:=(hgo0.ne hq).2;omega);have hgw:=hgo0.chg KW.out (fun k h1 h2 e=>by omega);rw [hEO] at hgw OVT;have HGW:=zf hgw;have HAW:=zf (KW.out.obj (fun e=>by omega) HA.out);have hge2:=HGE.out;rw [zlT] at hge2;have EA:=hge2.done;have HGE2:=zf hge2;have r1:=zg (o:=1) hgw.1 rfl;have t0:=zg (o:=0) hge2.1 rfl;have t2:=zg (o:=2) hge2.1 rfl;have hTw:T < wr.heap.size:=zu hge2.1;have kx:=zi (fun _=>False) wr (.cells #[.int .i64 (va:Int),.slice ea ents.length ec,.int .i64 (vb:Int)] 37);have zx:wr.heap.size < (wr.alloc (.cells #[.int .i64 (va:Int),.slice ea ents.length ec,.int .i64 (vb:Int)] 37)).heap.size:=by rw [zlH];omega
     have HGX:=zf (hgw.chg kx (fun k h1 h2 e=>e));have EAX:=zf ((EA.chg kx (fun k hk e=>e)).up (G':=fun y=>R < y∧y < (wr.alloc (.cells #[.int .i64 (va:Int),.slice ea ents.length ec,.int .i64 (vb:Int)] 37)).heap.size∧(Value.slice oa k oc).ownBlock≠some y) (fun q hq=>⟨by omega,by omega,fun e=>by have:=OVT.out q e;omega⟩));have kxw:=zf kx;clear hd hd2 hgo0 hgw hge2 EA kx HI hin HGE HC9 GO0;have OWN:=HGX.out.2.1;rw [hEO] at OWN;go_wp2_with (at_builtin;refine zK rfl (.tmp 37) (.tmp 39) 38 rfl 37 3 40 Tryz.underlying38 Tryz.elemObject R (.slice oa k oc) k (yY EO) rfl OWN wr.heap.size [.int .i64 (va:Int),.slice ea ents.length ec,.int .i64 (vb:Int)] 37 (0,0) rfl ?b2 rfl ?b3 ?b4 ?b5 ?b6 ?b7)
     case b2=>exact zh _ _
     case b3=>intro u hu;simp at hu;rcases hu with rfl | rfl | rfl <;> rfl
     case b4=>omega
     case b5=>unfold maxLen;omega
     case b6=>omega
     intro v5 w10 o5 g5 sn;obtain ⟨a5,c5,rfl⟩:=zl o5;obtain ⟨p1,p2⟩:=HGX.out.push (x:=⟨(va:Int),(vb:Int),ents⟩) (ov':=.slice a5 (k+1) c5) EAX.out (by rw [hEO];exact o5) (Chg.of_grown g5) sn;rw [<- TK.out] at p1;have P1:=zf p1;have P3:=zf ((HIN.out.chg kxw.out (fun e=>e)).chg p2 (fun (e:R<=I)=>by omega));have P4:=zf (p2.obj (fun (e:R<=A0)=>by omega) (kxw.out.obj (fun e=>e) HAW.out));have P2:=zf (HC.out.trans ((KW.out.mono (fun x _ e=>by show A0<=x;rcases e with e | e <;> omega)).trans ((kxw.out.mono (fun _ _ e=>e.elim)).trans (p2.mono (fun x _ e=>by show A0<=x;have:R<=x:=e;omega)))));have h10:=(Chg.of_grown g5).obj (fun e=>by have:=(HGX.out.ne e).1;omega) HGX.out.1;have q1:=zg (o:=1) h10 rfl;have f1:=zk (o:=1) h10;clear p1 p2 o5 g5 sn OWN HGX EAX h10 kxw HAW HIN HGE2 HGW KW HC HA K9;go_wp2;go_roundw
     case rel=>exact ⟨k+1,pos,by omega,by go_num,zf ⟨by rw [HRST.out];exact HD2.out,hps,P3.out,_,_,P1.out⟩,P4,P2⟩
     case measure=>simp [intOf];omega
  ·obtain rfl:k=objs.length:=by omega
   obtain ⟨hd,hps,hin,hgo⟩:=HI.out
   have hpos:pos=s.size:=by
    have:=congrArg List.length hd;rw [List.length_drop,List.drop_length,zz] at this;simp at this;omega
   subst hpos;have DN:=zf (zg6 wr I s hin hz);have GOw:=zf hgo;clear hd hin hgo HI hps;go_wp2_with fail;(with_reducible refine DN.out.mono ?_);rintro e wf ⟨rfl,_,kf⟩;obtain ⟨ov,EO,hgo⟩:=GOw.out.chg kf (fun k h1 h2 e=>e);rw [zlT] at hgo;have HAf:=zf (kf.obj (fun e=>e) HA.out);have Kf:=zf (HC.out.trans (kf.mono (fun _ _ e=>e.elim)));obtain ⟨oa,oc,rfl⟩:=zl hgo.2.1;have hEO:EO.length=objs.length:=hgo.2.2.len;rw [hEO] at hgo;have MY:=zf (MAY.out wf oa oc _ hgo.done);have r0:=zg (o:=0) hgo.1 rfl;have r1:=zg (o:=1) hgo.1 rfl;have HGf:=zf hgo;clear kf hgo GOw DN HA HC MAY;go_wp2_with fail;(with_reducible refine MY.out.mono ?_);rintro e wg ⟨rfl,kg⟩;rw [HR.out];have hgg:=HGf.out.chg kg (fun k h1 h2 e=>e);have HAg:=kg.obj (fun e=>e) HAf.out;have Kg:=zf (Kf.out.trans (kg.mono (fun _ _ e=>e.elim)));have s0:=zg (o:=0) hgg.1 rfl;have s1:=zg (o:=1) hgg.1 rfl;have a0:=zg (o:=0) HAg rfl;have a1:=zg (o:=1) HAg rfl;have fa0:=zk (o:=0) HAg;have fa1:=zk (o:=1) HAg;have HGG:=zf hgg;have HAG:=zf HAg;clear kg hgg HAg HGf HAf Kf MY r0 r1;go_wp2;have kc:=(zA wg A0 0 (.int .i64 (bo:Int))).trans (zA (wg.setCell ⟨A0,0,none⟩ (.int .i64 (bo:Int))) A0 1 (.slice oa objs.length oc));have OF:=zq (o:=1) (zq (o:=0) HAG.out (.int .i64 (bo:Int))) (.slice oa objs.length oc);have z0:=zg (o:=0) OF rfl;have z1:=zg (o:=1) OF rfl;have GG:=HGG.out.chg kc (fun q h1 h2 (e:q=A0)=>by omega);have BS:=zfw GG.2.1;have GF:=GG.done;have KF:=(Chg.refl (fun _=>False) w).next (Kg.out.trans (kc.mono (fun q _ (e:q=A0)=>by show A0<=q;omega))) (fun q hq (e:A0<=q)=>by have:=HA0.out;omega)
   have GF:=zf (GF.up (G':=fun q=>w.heap.size<=q∧q < _) (fun q hq=>⟨by have:=HA0.out;omega,hq.2⟩));refine bodyPost_ret (v:=.tuple #[.agg #[.int .i64 (bo:Int),.slice oa objs.length oc],.int .i64 0]) (by simp [results,Tryz.results58,go_sem,z0,z1]) rfl ?_;exact ⟨oa,oc,rfl,GF.out,BS.imp id (fun ⟨g,h1,h2,h3⟩=>⟨g,h1,by have:=HA0.out;omega,h3⟩),KF⟩
end Go.Proofs.YtcilaocknhphnaaGreat
