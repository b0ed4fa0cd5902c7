/-
  DecideTells: the law's same. DecideTells: the reference's Decide, the law's same; the law, walked.
-/
import Derived.Test.YthdfplafihmejaaGreatZtVChkLaw
import Derived.Test.YthdfplafihmejaaGreatZtVTelE
namespace Go.Proofs.YthdfplafihmejaaGreat
open Go.RowKit Go.Maps
set_option maxHeartbeats 8000000 in
set_option maxRecDepth 100000 in
theorem zj7 (w:World) (tv pv uv qv:Value) (y:zdL) (G G':Nat->Prop) (ha:zby w tv pv G y) (hb:zby w uv qv G' y):
  Calls Tryz.prog 15 #[.agg #[.int .i64 y.entry,tv,pv],.agg #[.int .i64 y.entry,uv,qv]] w fun e w'=>e=.returned (.bool true)∧Chg (fun _=>False) w w':=by
 have HA:=ze ha;have HB:=ze hb;obtain ⟨ta,tc,rfl,htl,_⟩:=ha.ways;obtain ⟨pa,pc,rfl,hpl,_⟩:=ha.proofs;obtain ⟨ua,uc,rfl,_,_⟩:=hb.ways;obtain ⟨qa,qc,rfl,_,_⟩:=hb.proofs;unfold maxLen at htl hpl;have B1:=zh (w.alloc (.cells #[.int .i64 y.entry,.slice ta y.ways.length tc,.slice pa y.proofs.length pc] 42)) (.cells #[.int .i64 y.entry,.slice ua y.ways.length uc,.slice qa y.proofs.length qc] 42);rw [zq8] at B1;have OA:=ze (Ze (.cells #[.int .i64 y.entry,.slice ua y.ways.length uc,.slice qa y.proofs.length qc] 42) (zh w (.cells #[.int .i64 y.entry,.slice ta y.ways.length tc,.slice pa y.proofs.length pc] 42)));have OB:=ze B1;have KB:=ze ((zi (fun _=>False) w (.cells #[.int .i64 y.entry,.slice ta y.ways.length tc,.slice pa y.proofs.length pc] 42)).trans (zi _ _ (.cells #[.int .i64 y.entry,.slice ua y.ways.length uc,.slice qa y.proofs.length qc] 42)));clear ha hb B1;go_enter Tryz.func15,Tryz.ntmps15;go_wp2_with fail;generalize (w.alloc (.cells #[.int .i64 y.entry,.slice ta y.ways.length tc,.slice pa y.proofs.length pc] 42)).alloc (.cells #[.int .i64 y.entry,.slice ua y.ways.length uc,.slice qa y.proofs.length qc] 42)=w1 at *;obtain ⟨b,hb⟩:∃ b,b=w.heap.size:=⟨_,rfl⟩;rw [<- hb] at OA OB;rw [<- hb];clear hb;go_loopw [33] (fun iv wr=>∃ k:Nat,k<=y.ways.length∧iv=.int .i64 k∧Hid (Chg (fun _=>False) w1 wr)) (fun iv _=>y.ways.length - (intOf iv).toNat)
 case atStart=>exact ⟨0,by omega,rfl,ze (Chg.refl _ _)⟩
 case round=>
 obtain ⟨k,hk,rfl,HI⟩:=hrel;by_cases hlt:k < y.ways.length
 · as_aux_lemma=>
   obtain ⟨t,ht⟩:∃ t,y.ways[k]? = some t:=⟨_,zq0 hlt⟩;obtain ⟨_,_,e1,_,h1⟩:=HA.out.ways.chg (KB.out.trans HI.out) (fun _ _ e=>e);cases e1;obtain ⟨g1,o1,rfl,_,c1⟩:=h1 k t ht;obtain ⟨_,_,e2,_,h2⟩:=HB.out.ways.chg (KB.out.trans HI.out) (fun _ _ e=>e);cases e2;obtain ⟨g2,o2,rfl,_,c2⟩:=h2 k t ht;have a1:=zf (o:=1) (HI.out.obj (fun e=>e) OA.out) rfl;have b1:=zf (o:=1) (HI.out.obj (fun e=>e) OB.out) rfl;clear h1 h2 ht;go_wp2_with fail;go_quiet (fail);rename_i nq;have KQ:=ze (HI.out.drewN nq);clear HI;go_wp2;go_roundw
   case rel=>exact ⟨k+1,by omega,by go_num,KQ⟩
   case measure=>simp [intOf];omega
 obtain rfl:k=y.ways.length:=by omega
 have K2:=ze HI.out;clear HI hlt hk;generalize wr=w2 at *;have a2:=zf (o:=2) (K2.out.obj (fun e=>e) OA.out) rfl;go_wp2_with fail;clear a2;go_loopw [51] (fun iv wr=>∃ k:Nat,k<=y.proofs.length∧iv=.int .i64 k∧Hid (Chg (fun _=>False) w1 wr)) (fun iv _=>y.proofs.length - (intOf iv).toNat)
 case atStart=>exact ⟨0,by omega,rfl,K2⟩
 case round=>
 obtain ⟨k,hk,rfl,HI⟩:=hrel;by_cases hlt:k < y.proofs.length
 rotate_left
 · as_aux_lemma=>
   obtain rfl:k=y.proofs.length:=by omega
   have KF:=ze (KB.out.trans HI.out);clear HI;go_wp2;go_ret;exact ⟨rfl,KF.out⟩
 obtain ⟨p,hp⟩:∃ p,y.proofs[k]? = some p:=⟨_,zq0 hlt⟩;obtain ⟨_,_,e1,_,h1⟩:=HA.out.proofs.chg (KB.out.trans HI.out) (fun _ _ e=>e);cases e1;obtain ⟨g1,o1,iv,sv,rfl,_,c1,c2,hp1⟩:=h1 k p hp;obtain ⟨_,_,e2,_,h2⟩:=HB.out.proofs.chg (KB.out.trans HI.out) (fun _ _ e=>e);cases e2;obtain ⟨g2,o2,jv,uv,rfl,_,d1,d2,hp2⟩:=h2 k p hp;have SM:=ze (fun W (kk:Chg (fun _=>False) wr W)=>zj8 W iv sv jv uv p _ _ (hp1.chg kk (fun _ _ e=>e)) (hp2.chg kk (fun _ _ e=>e)));have a2:=zf (o:=2) (HI.out.obj (fun e=>e) OA.out) rfl;have b2:=zf (o:=2) (HI.out.obj (fun e=>e) OB.out) rfl;have SS:=ze (fun W (kk:Chg (fun _=>False) wr W)=>(⟨zj kk (fun e=>e) a2,zj kk (fun e=>e) b2,zj kk (fun e=>e) c1,zj kk (fun e=>e) c2,zj kk (fun e=>e) d1,zj kk (fun e=>e) d2⟩:W.cell? ⟨b,2,none⟩=some (.slice (some ⟨g1,o1,none⟩) y.proofs.length pc)∧W.cell? ⟨b+1,2,none⟩=some (.slice (some ⟨g2,o2,none⟩) y.proofs.length qc)∧W.cell? ⟨g1,o1+k*2,none⟩=some iv∧W.cell? ⟨g1,o1+k*2+1,none⟩=some sv∧W.cell? ⟨g2,o2+k*2,none⟩=some jv∧W.cell? ⟨g2,o2+k*2+1,none⟩=some uv));clear h1 h2 hp hp1 hp2;go_wp2_with fail;clear a2 b2 c1 c2 d1 d2;refine zu (N:=67) [.rd [0,1,2,3,4,5,6,7,8,9],.ef 10,.rd [11]] (fun W=>W.cell? ⟨b,2,none⟩=some (.slice (some ⟨g1,o1,none⟩) y.proofs.length pc)∧W.cell? ⟨b+1,2,none⟩=some (.slice (some ⟨g2,o2,none⟩) y.proofs.length qc)∧W.cell? ⟨g1,o1+k*2,none⟩=some iv∧W.cell? ⟨g1,o1+k*2+1,none⟩=some sv∧W.cell? ⟨g2,o2+k*2,none⟩=some jv∧W.cell? ⟨g2,o2+k*2+1,none⟩=some uv) (by kernel_rfl) (by kernel_rfl) (by kernel_rfl) (by kernel_rfl) (Nat.le_of_ble_eq_true rfl) (SS.out wr (Chg.refl _ _)) ?_;refine zB (A:=?A1) ?h1 ?k1
 case h1=>
  rintro w' ⟨z0,z1,z2,z3,z4,z5⟩ K hK;simp only [zM,zqT,zqU,zqV,zqW,zqX]
  repeat still_step
  refine wpStill_nil ?_;exact hK
 have V1:=ze (SM.out wr.drew (zw _ _));refine zI rfl ?_;go_wp2_with fail;(with_reducible refine V1.out.mono ?_);rintro e w4 ⟨rfl,k4⟩;have kf:=(zw (fun _=>False) wr).trans k4;have S4:=ze (SS.out w4 kf);have K4:=ze (HI.out.trans kf);clear V1 k4 kf SM SS HI;go_wp2_with fail;refine ⟨S4.out,?_⟩;refine zB (A:=?A2) ?h2 ?k2
 case h2=>
  rintro w' z0 K hK;clear z0;simp only [zM,zqT,zqU,zqV,zqW,zqX]
  repeat still_step
  refine wpStill_nil ?_;exact hK
 refine zR ?_;go_wp2;go_roundw
 case rel=>exact ⟨k+1,by omega,by go_num,K4⟩
 case measure=>simp [intOf];omega
theorem zoc (R:List zF) (C:List zq) (L:List Za) (op:Int) (c:List ByteArray) (b:Int):(Yt R C L op c b).1=(yG R C L op c b).2.ans∧(Yt R C L op c b).2.2=(yG R C L op c b).1:=by
 unfold Yt;split
 · rename_i h
   exact ⟨h.2.symm,h.1.symm⟩
 · exact ⟨rfl,rfl⟩
set_option maxHeartbeats 4000000 in
set_option maxRecDepth 100000 in
theorem zf5 (w:World) (ra:Option Addr) (R:List zF) (rc:Nat) (v lv cv:Value) (P:List (zq × Value)) (L:List Za) (op:Int) (c:List ByteArray) (b:Int) (h:zgC w ra R rc v lv cv P L c (· < w.heap.size)) (hi:zpT R P L c ⟨0,[],[]⟩) (hfr:∀ k∈zk P,k.fr.length<=1200):
  Calls Tryz.prog 12 #[.slice ra R.length rc,v,lv,.int .i64 op,cv,.int .i64 b] w fun e w'=>e=.returned (.tuple #[.int .i64 (yG R (zk P) L op c b).2.ans,.int .i64 (yG R (zk P) L op c b).1])∧Chg (fun _=>False) w w':=by
 have E:=ze (zde w ra R rc v lv cv P L op c b h hi hfr);obtain ⟨d1,d2⟩:=zoc R (zk P) L op c b;rw [<- d1,<- d2];obtain ⟨la,lcap,rfl,_,_⟩:=h.run.certs;obtain ⟨ea,ec,rfl,_,_⟩:=h.ents.shape;obtain ⟨ca,cc,rfl,_,_⟩:=h.set;generalize Yt R (zk P) L op c b=q at *;clear h hi hfr d1 d2;obtain ⟨a,y,k⟩:=q;go_enter Tryz.func12,Tryz.ntmps12;go_wp2_with fail;(with_reducible refine E.out.mono ?_);rintro e w2 ⟨k2,tv,pv,rfl,hz⟩;obtain ⟨ta,tc,rfl,_,_⟩:=hz.ways;obtain ⟨pa,pc,rfl,_,_⟩:=hz.proofs;have K:=ze (k2.trans (zi (fun _=>False) w2 (.cells #[.int .i64 y.entry,.slice ta y.ways.length tc,.slice pa y.proofs.length pc] 42)));clear hz k2 E;go_wp2;go_ret2;exact ⟨rfl,K.out⟩
set_option maxHeartbeats 16000000 in
set_option maxRecDepth 100000 in
theorem zlq (w:World) (xv:Value) (ra:Option Addr) (R:List zF) (rc:Nat) (pv lv cv:Value) (P:List (zq × Value)) (L:List Za) (op:Int) (c:List ByteArray) (b:Int) (hx:zhO w xv ra R rc pv lv cv P L op c b):
  Calls Tryz.prog 3 #[xv] w fun e w'=>e=.returned (.bool true)∧Chg (fun _=>False) w w':=by
 have HX:=ze hx;obtain rfl:=hx.val;obtain ⟨la,lcap,rfl,_,_⟩:=hx.certs.at_;obtain ⟨ea,ec,rfl,_,_⟩:=hx.ents.shape;obtain ⟨ca,cc,rfl,hcl0,_⟩:=hx.set.at_;have OX:=ze (zh w (.cells #[.slice ra R.length rc,.slice la P.length lcap,.slice ea L.length ec,.int .i64 op,.slice ca c.length cc,.int .i64 b] 28));have K2:=ze (zi (fun _=>False) w (.cells #[.slice ra R.length rc,.slice la P.length lcap,.slice ea L.length ec,.int .i64 op,.slice ca c.length cc,.int .i64 b] 28));clear hx;go_enter Tryz.func3,Tryz.ntmps3;go_wp2_with fail;generalize w.alloc (.cells #[.slice ra R.length rc,.slice la P.length lcap,.slice ea L.length ec,.int .i64 op,.slice ca c.length cc,.int .i64 b] 28)=w2 at *;obtain ⟨bx,hbx⟩:∃ bx,bx=w.heap.size:=⟨_,rfl⟩;rw [<- hbx] at OX;rw [<- hbx];clear hbx;have BX:=ze (fun (W:World) (k:Chg (fun _=>False) w2 W)=>zcw (k.obj (fun e=>e) OX.out));have AW:=ze (zeI w2);(with_reducible refine AW.out.mono ?_);rintro e w3 ⟨rfl,k3⟩;have E3:=ze k3;obtain ⟨c0,c1,c2,c3,c4,c5⟩:=BX.out w3 k3;have LG:=ze (zfy HX.out (K2.out.trans k3));clear k3 AW;go_wp2_with fail;clear c0 c1 c2 c3 c4 c5;(with_reducible refine LG.out.mono ?_);rintro e w4 ⟨lg,rfl,k4,hlg⟩;have E4:=ze (E3.out.trans k4);clear LG k4 E3;obtain ⟨c0,c1,c2,c3,c4,c5⟩:=BX.out w4 E4.out;cases lg with
 | true=>
  as_aux_lemma=>
  go_wp2;go_ret;exact ⟨rfl,K2.out.trans E4.out⟩
 | false=>
 have FIT:=ze (hlg rfl);clear hlg;have ASK:=ze (fun (W:World) (k:Chg (fun _=>False) w2 W)=>FIT.out.ask HX.out (K2.out.trans k))
 have RI:zpT R P L c ⟨0,[],[]⟩:=⟨HX.out.fit.1,fun k hk=>by
  obtain ⟨q1,_,q2⟩:=FIT.out.cert k hk;exact ⟨by omega,fun x hx=>by have:=q2 x hx;omega⟩,fun x hx z hz=>by have:=(FIT.out.who x hx).2 z hz;omega,fun x hx=>by have:=FIT.out.set.2 x hx;omega,fun p hp=>by cases hp⟩
 have FRL:∀ k∈zk P,k.fr.length<=1200:=fun k hk=>(FIT.out.cert k hk).2.1;have D1:=ze (zjH w4 ra R rc _ _ _ P L op c b _ (ASK.out w4 E4.out));have RD:=ze (fun W k=>zf5 W ra R rc _ _ _ P L op c b (ASK.out W k) RI FRL);have X1:=ze (fun W k=>zgs W ra R rc _ _ _ P L op c b _ (ASK.out W k));have RX:=ze (fun W k=>zde W ra R rc _ _ _ P L op c b (ASK.out W k) RI FRL);clear RI FRL ASK FIT HX;generalize yG R (zk P) L op c b=dq at *;generalize Yt R (zk P) L op c b=q at *;obtain ⟨d1,d2⟩:=dq;obtain ⟨a,y,k⟩:=q;simp only at D1 RD X1 RX;generalize d2.ans=d3 at *;go_wp2_with fail;clear c0 c1 c2 c3 c4 c5;(with_reducible refine D1.out.mono ?_);rintro e w5 ⟨rfl,k5⟩;have E5:=ze (E4.out.trans k5);have V:=ze (RD.out w5 E5.out);clear D1 k5 E4 RD;obtain ⟨c0,c1,c2,c3,c4,c5⟩:=BX.out w5 E5.out;go_wp2_with fail;clear c0 c1 c2 c3 c4 c5;(with_reducible refine V.out.mono ?_);rintro e w6 ⟨rfl,k6⟩;have E6:=ze (E5.out.trans k6);have V:=ze (X1.out w6 E6.out);clear k6 E5 X1;obtain ⟨c0,c1,c2,c3,c4,c5⟩:=BX.out w6 E6.out;go_wp2_with fail;clear c0 c1 c2 c3 c4 c5;(with_reducible refine V.out.mono ?_);rintro e w7 ⟨k7,tv,qv,rfl,hz⟩;simp only at hz;have kb:=zi (fun _=>False) w7 (.cells #[.int .i64 y.entry,tv,qv] 39);have OZ:=ze (zh w7 (.cells #[.int .i64 y.entry,tv,qv] 39));have E7:=ze (E6.out.trans (k7.trans kb));have HZ:=ze ((hz.chg kb (fun _ _ e=>e)).up (fun j hj=>zq7 hj.2 kb.size));obtain ⟨za,zc,rfl,hzl,_⟩:=hz.ways;obtain ⟨pa,pc,rfl,hpl,_⟩:=hz.proofs;have V:=ze (RX.out _ E7.out);clear k7 kb hz E6 RX;obtain ⟨c0,c1,c2,c3,c4,c5⟩:=BX.out _ E7.out;go_wp2_with fail;clear c0 c1 c2 c3 c4 c5;generalize w7.alloc (.cells #[.int .i64 y.entry,.slice za y.ways.length zc,.slice pa y.proofs.length pc] 39)=w8 at *;generalize w7.heap.size=gz at *;(with_reducible refine V.out.mono ?_);rintro e w9 ⟨k9,uv,rv,rfl,hu⟩;simp only at hu;have kb:=zi (fun _=>False) w9 (.cells #[.int .i64 y.entry,uv,rv] 42);have OU:=ze (zh w9 (.cells #[.int .i64 y.entry,uv,rv] 42));have E9:=ze (E7.out.trans (k9.trans kb));have HU:=ze ((hu.chg kb (fun _ _ e=>e)).up (fun j hj=>zq7 hj.2 kb.size));have HZ:=ze (HZ.out.chg (k9.trans kb) (fun _ _ e=>e));have OZ:=ze ((k9.trans kb).obj (fun e=>e) OZ.out);obtain ⟨ua,uc,rfl,_,_⟩:=hu.ways;obtain ⟨va,vc,rfl,_,_⟩:=hu.proofs;clear k9 kb hu E7 V BX;go_wp2_with fail;generalize w9.alloc (.cells #[.int .i64 y.entry,.slice ua y.ways.length uc,.slice va y.proofs.length vc] 42)=wa at *;generalize w9.heap.size=gu at *;have SS:=ze (fun W (kk:Chg (fun _=>False) wa W)=>(⟨zdm (kk.obj (fun e=>e) OZ.out),zdm (kk.obj (fun e=>e) OU.out)⟩:(W.cell? ⟨gz,0,none⟩=some (.int .i64 y.entry)∧W.cell? ⟨gz,1,none⟩=some (.slice za y.ways.length zc)∧W.cell? ⟨gz,2,none⟩=some (.slice pa y.proofs.length pc))∧(W.cell? ⟨gu,0,none⟩=some (.int .i64 y.entry)∧W.cell? ⟨gu,1,none⟩=some (.slice ua y.ways.length uc)∧W.cell? ⟨gu,2,none⟩=some (.slice va y.proofs.length vc))));refine zu (N:=85) [.rd [0,1,2,3,4,5,6,7,8,9,10,11,12,13,14,15,16,17,18,19,21],.ef 20,.ef 22,.rd [23,24]] (fun W=>(W.cell? ⟨gz,0,none⟩=some (.int .i64 y.entry)∧W.cell? ⟨gz,1,none⟩=some (.slice za y.ways.length zc)∧W.cell? ⟨gz,2,none⟩=some (.slice pa y.proofs.length pc))∧(W.cell? ⟨gu,0,none⟩=some (.int .i64 y.entry)∧W.cell? ⟨gu,1,none⟩=some (.slice ua y.ways.length uc)∧W.cell? ⟨gu,2,none⟩=some (.slice va y.proofs.length vc))) (by kernel_rfl) (by kernel_rfl) (by kernel_rfl) (by kernel_rfl) (Nat.le_of_ble_eq_true rfl) (SS.out wa (Chg.refl _ _)) ?_;refine zB (A:=?A1) ?h1 ?k1
 case h1=>
  rintro w' ⟨⟨z0,z1,z2⟩,z3,z4,z5⟩ K hK;simp only [zM,zqT,zqU,zqV,zqW,zqX];refine WS.out ?_
  repeat (refine Zu (fun K hK=>?_);go_simp;refine hK _ ?_;clear hK K)
  refine yn ?_;exact hK
 have V1:=ze (zl7 wa.drew y.entry za pa y.ways.length zc y.proofs.length pc);refine zI rfl ?_;go_wp2_with fail;(with_reducible refine V1.out.mono ?_);rintro e wb ⟨rfl,kb⟩;have KB:=ze ((zw (fun _=>False) wa).trans kb);have V2:=ze (zj7 wb _ _ _ _ y _ _ (HZ.out.chg KB.out (fun _ _ e=>e)) (HU.out.chg KB.out (fun _ _ e=>e)));clear V1 kb;go_wp2_with fail;refine ⟨SS.out wb KB.out,?_⟩;refine zI rfl ?_;go_wp2_with fail;(with_reducible refine V2.out.mono ?_);rintro e wc ⟨rfl,kc⟩;have KC:=ze (KB.out.trans kc);clear V2 kc;go_wp2_with fail;refine ⟨SS.out wc KC.out,?_⟩;refine zB (A:=?A2) ?h2 ?k2
 case h2=>
  rintro w' z0 K hK;clear z0;simp only [zM,zqT,zqU,zqV,zqW,zqX];refine WS.out ?_
  repeat (refine Zu (fun K hK=>?_);go_simp;refine hK _ ?_;clear hK K)
  refine yn ?_;exact hK
 refine zR ?_;go_wp2;go_ret;exact ⟨by simp,K2.out.trans (E9.out.trans KC.out)⟩
end Go.Proofs.YthdfplafihmejaaGreat
