/-
  Package decide: Decide, granted, Explain. Package decide: Check. BaseZ: what else. Kit2Z: what else. RPlainZ: what else. MRefsZ: what else. RArgsZ: what else. RHelpZ: what else. UPlain: what else.
-/
import Derived.Test.YthdfplafihmejaaGreatZtVExpl
import Derived.Test.YthdfplafihmejaaGreatZtVPlain2
import Derived.Test.YthdfplafihmejaaGreatZtBaseZ
import Derived.Test.YthdfplafihmejaaGreatZtVShort
import Derived.Test.YthdfplafihmejaaGreatZtUPlain
namespace Go.Proofs.YthdfplafihmejaaGreat
open Go.RowKit Go.Maps
theorem zpC (w:World) (ra:Option Addr) (R:List zF) (rc:Nat) (v lv cv:Value) (P:List (zq × Value)) (L:List Za) (op:Int) (c:List ByteArray) (b:Int) (G G2 G3:Nat->Prop) (hR:Yb w ra R rc v P G) (hl:ZI w lv G2 L) (hL:L.length<=1000) (hc:zx w cv G3 c):
  Calls Tryz.prog 31 #[.slice ra R.length rc,v,lv,.int .i64 op,cv,.int .i64 b] w fun e w'=>e=.returned (.tuple #[.int .i64 (yG R (zk P) L op c b).2.ans,.int .i64 (yG R (zk P) L op c b).1])∧Chg (fun _=>False) w w':=by
 have D:=ze (zfG w ra R rc v lv cv P L op c b G G2 G3 hR hl hL hc);obtain ⟨_,_,rfl,_,_⟩:=hl.shape;obtain ⟨_,_,rfl,_,_⟩:=hR.certs;obtain ⟨_,_,rfl,_,_⟩:=hc;generalize yG R (zk P) L op c b=q at *;clear hR hl;obtain ⟨k,⟨a1,a2,a3,a4⟩⟩:=q;go_enter Tryz.func31,Tryz.ntmps31;go_wp2_with fail;(with_reducible refine D.out.mono ?_);rintro e w2 ⟨k2,va,vc,rfl,_⟩;have K:=ze (k2.trans (zi (fun _=>False) w2 (.cells #[.int .i64 a1,.int .i64 a2,.bool a3,.slice va a4.length vc] 127)));go_wp2;go_ret2;exact ⟨rfl,K.out⟩
theorem zew (w:World) (a n:Int) (s:Bool) (v1:Option Addr) (v2 v3:Nat):Calls Tryz.prog 61 #[.agg #[.int .i64 a,.int .i64 n,.bool s,.slice v1 v2 v3]] w fun e w'=>e=.returned (.bool (a == 1))∧Chg (fun _=>False) w w':=by
 have K:=ze (zi (fun _=>False) w (.cells #[.int .i64 a,.int .i64 n,.bool s,.slice v1 v2 v3] 127));go_enter Tryz.func61,Tryz.ntmps61;go_wp2;go_ret;exact ⟨rfl,K.out⟩
def xY (w:World) (v:Value) (G:Nat->Prop) (P:List zL):Prop:=
 ∃ la cap,v=.slice la P.length cap∧P.length<=maxLen∧∀ (j:Nat) p,P[j]? = some p->∃ lb lo iv sv,la=some ⟨lb,lo,none⟩∧G lb∧w.cell? ⟨lb,lo+j*2,none⟩=some iv∧w.cell? ⟨lb,lo+j*2+1,none⟩=some sv∧Zz w iv sv G p
theorem xY.chg {S:Nat->Prop} {w w':World} {v:Value} {G:Nat->Prop} {P:List zL} (h:xY w v G P) (hc:Chg S w w') (hs:∀ k,G k->¬ S k):xY w' v G P:=by
 obtain ⟨la,cap,h1,h2,h3⟩:=h;exact ⟨la,cap,h1,h2,fun j p hj=>by obtain ⟨lb,lo,iv,sv,q1,q2,q3,q4,q5⟩:=h3 j p hj;exact ⟨lb,lo,iv,sv,q1,q2,zj hc (hs lb q2) q3,zj hc (hs lb q2) q4,q5.chg hc hs⟩⟩
theorem xY.up {w:World} {v:Value} {G G':Nat->Prop} {P:List zL} (h:xY w v G P) (hg:∀ k,G k->G' k):xY w v G' P:=by
 obtain ⟨la,cap,h1,h2,h3⟩:=h;exact ⟨la,cap,h1,h2,fun j p hj=>by obtain ⟨lb,lo,iv,sv,q1,q2,q3,q4,q5⟩:=h3 j p hj;exact ⟨lb,lo,iv,sv,q1,hg _ q2,q3,q4,q5.up hg⟩⟩
theorem Yr.up17 {w:World} {v:Value} {G G':Nat->Prop} {l:List Int} (h:Yr w v G l) (hg:∀ k,G k->G' k):Yr w v G' l:=by
 obtain ⟨la,cap,h1,h2,h3⟩:=h;exact ⟨la,cap,h1,h2,fun j x hj=>by obtain ⟨g,o,q1,q2,q3⟩:=h3 j x hj;exact ⟨g,o,q1,hg _ q2,q3⟩⟩
structure zby (w:World) (tv pv:Value) (G:Nat->Prop) (y:zdL):Prop where
 ways:Yr w tv G y.ways
 proofs:xY w pv G y.proofs
theorem zby.chg {S:Nat->Prop} {w w':World} {tv pv:Value} {G:Nat->Prop} {y:zdL} (h:zby w tv pv G y) (hc:Chg S w w') (hs:∀ k,G k->¬ S k):zby w' tv pv G y:=⟨h.ways.chg hc hs,h.proofs.chg hc hs⟩
theorem zby.up {w:World} {tv pv:Value} {G G':Nat->Prop} {y:zdL} (h:zby w tv pv G y) (hg:∀ k,G k->G' k):zby w tv pv G' y:=⟨h.ways.up17 hg,h.proofs.up hg⟩
theorem xB (w:World) (G:Nat->Prop) (i:Int):zby w (.slice none 0 0) (.slice none 0 0) G ⟨i,[],[]⟩:=
 ⟨⟨none,0,rfl,by simp,fun j x hj=>by simp at hj⟩,⟨none,0,rfl,by simp,fun j x hj=>by simp at hj⟩⟩
theorem zfg:∀ {Q:List (zL × Value × Value)} {k:Nat} {z:zL × Value × Value},Q[k]? = some z->(xN Q)[k*2]? = some z.2.1∧(xN Q)[k*2+1]? = some z.2.2
 | [],k,z,h=>by simp at h
 | a :: t,0,z,h=>by simp at h;subst h;exact ⟨rfl,rfl⟩
 | a :: t,k+1,z,h=>by
  obtain ⟨h1,h2⟩:=zfg (Q:=t) (k:=k) (by simpa using h);have e:xN (a :: t)=[a.2.1,a.2.2]++xN t:=by unfold xN;rw [List.flatMap_cons]
  rw [e];exact ⟨by rw [List.getElem?_append_right (by simp;omega)];simpa [show (k+1)*2 - 2=k*2 by omega] using h1,by rw [List.getElem?_append_right (by simp;omega)];simpa [show (k+1)*2+1 - 2=k*2+1 by omega] using h2⟩
theorem zcQ {w:World} {base:Nat} {v:Value} {G:Nat->Prop} {Q:List (zL × Value × Value)} (h:w.ownsRow base 83 2 v Q.length (xN Q)) (hs:∀ z∈Q,Zz w z.2.1 z.2.2 G z.1):xY w v (fun k=>G k∨v.ownBlock=some k) (Q.map Prod.fst):=by
 have h0:=h;obtain ⟨h1,⟨rfl,h2⟩ | ⟨g,cap,cur,rfl,hg,hh,q1,q2,q3,q4⟩⟩:=h
 · refine ⟨none,0,by rw [zq4,h2],by rw [zq4,h2];unfold maxLen;omega,fun j x hj=>?_⟩
   have:=(zq1.1 hj).1;rw [zq4] at this;omega
 · refine ⟨_,cap,by rw [zq4],by rw [zq4];omega,fun j x hj=>?_⟩
   rw [zrb] at hj;cases hz:Q[j]? with
   | none=>rw [hz] at hj;cases hj
   | some z=>
    rw [hz] at hj;cases hj;have hjl:=(zq1.1 hz).1;obtain ⟨c1,c2⟩:=zfg hz;refine ⟨g,0,z.2.1,z.2.2,rfl,.inr rfl,?_,?_,(hs z (zq2 hz)).up (fun _ q=>.inl q)⟩
    · rw [Nat.zero_add,h0.cellAt (j:=j*2) (by omega)];exact c1
    · rw [Nat.zero_add,h0.cellAt (j:=j*2+1) (by omega)];exact c2
theorem zgi {w:World} {base:Nat} {v:Value} {l:List Int} (h:w.ownsRow base 3 1 v l.length (l.map (Value.int .i64))):Yr w v (fun k=>v.ownBlock=some k) l:=by
 have h0:=h;obtain ⟨h1,⟨rfl,h2⟩ | ⟨g,cap,cur,rfl,hg,hh,q1,q2,q3,q4⟩⟩:=h
 · refine ⟨none,0,by rw [h2],by rw [h2];unfold maxLen;omega,fun j x hj=>?_⟩
   have:=(zq1.1 hj).1;omega
 · refine ⟨_,cap,rfl,by omega,fun j x hj=>⟨g,0,rfl,rfl,?_⟩⟩
   have hjl:=(zq1.1 hj).1;rw [Nat.zero_add,h0.cellAt (j:=j) (by omega),zrb,hj];rfl
theorem zqw {w:World} {b:Nat} {t:TypeId} {x0 x1 x2:Value} (h:w.heap[b]? = some (.cells #[x0,x1,x2] t (0,0))) (v0 v1 v2:Value) (W:World) (hW:W=((w.setCell ⟨b,0,none⟩ v0).setCell ⟨b,1,none⟩ v1).setCell ⟨b,2,none⟩ v2):W.heap[b]? = some (.cells #[v0,v1,v2] t (0,0))∧Chg (·=b) w W:=by
 subst hW;have h0:=zt (o:=0) h v0;have h1:=zt (o:=1) h0 v1;have h2:=zt (o:=2) h1 v2;exact ⟨h2,(((Chg.refl (fun k=>k=b) w).setCell (p:=⟨b,0,none⟩) (fun _=>rfl) _).setCell (p:=⟨b,1,none⟩) (fun _=>rfl) _).setCell (p:=⟨b,2,none⟩) (fun _=>rfl) _⟩
def zjO (w:World) (q:Int × zdL × Int) (e:Ending) (w':World):Prop:=Chg (fun _=>False) w w' ∧
 ∃ tv pv,e=.returned (.tuple #[.int .i64 q.1,.agg #[.int .i64 q.2.1.entry,tv,pv],.int .i64 q.2.2])∧zby w' tv pv (fun k=>w.heap.size<=k∧k < w'.heap.size) q.2.1
set_option maxHeartbeats 8000000 in
set_option maxRecDepth 100000 in
theorem ziG (w:World) (ra:Option Addr) (R:List zF) (rc:Nat) (v lv cv:Value) (P:List (zq × Value)) (L:List Za) (op:Int) (c:List ByteArray) (b:Int) (G G2 G3:Nat->Prop) (hR:Yb w ra R rc v P G) (hl:ZI w lv G2 L) (hL:L.length<=1000) (hc:zx w cv G3 c):
  Calls Tryz.prog 32 #[.slice ra R.length rc,v,lv,.int .i64 op,cv,.int .i64 b] w (zjO w (Yt R (zk P) L op c b)):=by
 have k1:=zi (fun _=>False) w (.cells #[.int .i64 0,.slice none 0 0,.slice none 0 0] 39);have O1:=ze (zh w (.cells #[.int .i64 0,.slice none 0 0,.slice none 0 0] 39));have D:=ze (zfG _ ra R rc v lv cv P L op c b G G2 G3 (hR.chg k1) (hl.chg k1 (fun _ _ e=>e)) hL (hc.chg k1 (fun _ _ e=>e)));have K1:=ze k1;have HR:=ze hR;have HL:=ze hl;have HC:=ze hc;have EX:=ze (show Yt R (zk P) L op c b=if (yG R (zk P) L op c b).1=0∧(yG R (zk P) L op c b).2.ans=1 then (1,zhZ R (zk P) L c b (yG R (zk P) L op c b).2,0) else ((yG R (zk P) L op c b).2.ans,znM,(yG R (zk P) L op c b).1) from rfl);have BAD:=ze (@zgl R (zk P) L op c b);have GOOD:=ze (@zcs R (zk P) L op c b);have GR:=ze (@zcr R (zk P) L op c b);obtain ⟨_,_,rfl,_,_⟩:=hl.shape;obtain ⟨la,lcap,rfl,hpl,_⟩:=hR.certs;obtain ⟨_,_,rfl,_,_⟩:=id hc;generalize Yt R (zk P) L op c b=ex at *;generalize yG R (zk P) L op c b=q at *;clear hR hl hc k1;go_enter Tryz.func32,Tryz.ntmps32;go_wp2_with fail;generalize w.alloc (.cells #[.int .i64 0,.slice none 0 0,.slice none 0 0] 39)=w1 at *;(with_reducible refine D.out.mono ?_);rintro e w2 ⟨k2,va,vc,rfl,hrow⟩;obtain ⟨k,d⟩:=q;simp only at hrow;have HW12:=ze k2.size;have kb:=zi (fun _=>False) w2 (.cells #[.int .i64 d.ans,.int .i64 d.entry,.bool d.short,.slice va d.rules.length vc] 127);have O3:=ze (kb.obj (fun e=>e) (k2.obj (fun e=>e) O1.out));have OD:=ze (zh w2 (.cells #[.int .i64 d.ans,.int .i64 d.entry,.bool d.short,.slice va d.rules.length vc] 127));have K3:=ze (K1.out.trans (k2.trans kb));have RW:=ze (zn hrow kb (fun _ _ e=>e));have hw0:w.heap.size < w1.heap.size:=zr O1.out;have hk3:=K3.out.size;clear D k2 kb hrow O1;by_cases hk:k=0
 rotate_left
 · as_aux_lemma=>
   have EB:=ze (show ex=(0,znM,k) from by
    have h1:d=zhe:=BAD.out hk;rw [EX.out,if_neg (fun h=>hk h.1)];simp only;rw [h1];rfl)
   have g1:(k != 0)=true:=by rw [zre];exact hk
   have d0:=zf (o:=0) O3.out rfl;have e0:=zm (o:=0) O3.out;have d1:=zf (o:=1) O3.out rfl;have e1:=zm (o:=1) O3.out;have d2:=zf (o:=2) O3.out rfl;have e2:=zm (o:=2) O3.out;obtain ⟨ans,en,sh,rules⟩:=d;clear hk EX BAD GOOD GR;go_wp2;obtain ⟨W,hW⟩:∃ W,W=(((w2.alloc (.cells #[.int .i64 ans,.int .i64 en,.bool sh,.slice va rules.length vc] 127)).setCell ⟨w.heap.size,0,none⟩ (.int .i64 0)).setCell ⟨w.heap.size,1,none⟩ (.slice none 0 0)).setCell ⟨w.heap.size,2,none⟩ (.slice none 0 0):=⟨_,rfl⟩;rw [<- hW];obtain ⟨ob,kW⟩:=zqw O3.out _ _ _ W hW;clear hW;have z0:W.cell? ⟨w.heap.size,0,none⟩=some (.int .i64 0):=zf ob rfl;have z1:W.cell? ⟨w.heap.size,1,none⟩=some (.slice none 0 0):=zf ob rfl;have z2:W.cell? ⟨w.heap.size,2,none⟩=some (.slice none 0 0):=zf ob rfl;refine bodyPost_ret (v:=.tuple #[.int .i64 0,.agg #[.int .i64 0,.slice none 0 0,.slice none 0 0],.int .i64 k]) (by simp [results,Tryz.results32,go_sem,z0,z1,z2]) rfl ?_;rw [EB.out];exact ⟨K3.out.next kW (fun k hk e=>by omega),_,_,rfl,xB _ _ _⟩
 subst hk;by_cases ha:d.ans=1
 rotate_left
 · as_aux_lemma=>
   have EB:=ze (show ex=(d.ans,znM,0) from by rw [EX.out,if_neg (fun h=>ha h.2)]);have g1:(d.ans == 1)=false:=by rw [zq9];exact ha
   have ke:=zi (fun _=>False) (w2.alloc (.cells #[.int .i64 d.ans,.int .i64 d.entry,.bool d.short,.slice va d.rules.length vc] 127)) (.cells #[.int .i64 d.ans,.int .i64 d.entry,.bool d.short,.slice va d.rules.length vc,.int .i64 0,.slice none 0 0,.slice none 0 0] 131);have K4:=ze (K3.out.trans ke);have O4:=ze (ke.obj (fun e=>e) O3.out);have OE:=ze (zh (w2.alloc (.cells #[.int .i64 d.ans,.int .i64 d.entry,.bool d.short,.slice va d.rules.length vc] 127)) (.cells #[.int .i64 d.ans,.int .i64 d.entry,.bool d.short,.slice va d.rules.length vc,.int .i64 0,.slice none 0 0,.slice none 0 0] 131));have GA:=zew ((w2.alloc (.cells #[.int .i64 d.ans,.int .i64 d.entry,.bool d.short,.slice va d.rules.length vc] 127)).alloc (.cells #[.int .i64 d.ans,.int .i64 d.entry,.bool d.short,.slice va d.rules.length vc,.int .i64 0,.slice none 0 0,.slice none 0 0] 131)) d.ans d.entry d.short va d.rules.length vc;rw [g1] at GA;have GA:=ze GA;obtain ⟨ans,en,sh,rules⟩:=d;clear ha EX BAD GOOD GR ke g1;simp only at GA EB K4 O4 OE;rw [zq8] at OE;go_wp2_with fail;generalize (w2.alloc (.cells #[.int .i64 ans,.int .i64 en,.bool sh,.slice va rules.length vc] 127)).alloc (.cells #[.int .i64 ans,.int .i64 en,.bool sh,.slice va rules.length vc,.int .i64 0,.slice none 0 0,.slice none 0 0] 131)=w4 at *;(with_reducible refine GA.out.mono ?_);rintro e w5 ⟨rfl,k5⟩;have K5:=ze (K4.out.trans k5);have O5:=ze (k5.obj (fun e=>e) O4.out);have OE5:=ze (k5.obj (fun e=>e) OE.out);have d0:=zf (o:=0) O5.out rfl;have e0:=zm (o:=0) O5.out;have d1:=zf (o:=1) O5.out rfl;have e1:=zm (o:=1) O5.out;have d2:=zf (o:=2) O5.out rfl;have e2:=zm (o:=2) O5.out;have x0:=zf (o:=0) OE5.out rfl;clear GA k5 K4 O4 OE;go_wp2;obtain ⟨W,hW⟩:∃ W,W=((w5.setCell ⟨w.heap.size,0,none⟩ (.int .i64 0)).setCell ⟨w.heap.size,1,none⟩ (.slice none 0 0)).setCell ⟨w.heap.size,2,none⟩ (.slice none 0 0):=⟨_,rfl⟩;rw [<- hW];obtain ⟨ob,kW⟩:=zqw O5.out _ _ _ W hW;clear hW;have z0:W.cell? ⟨w.heap.size,0,none⟩=some (.int .i64 0):=zf ob rfl;have z1:W.cell? ⟨w.heap.size,1,none⟩=some (.slice none 0 0):=zf ob rfl;have z2:W.cell? ⟨w.heap.size,2,none⟩=some (.slice none 0 0):=zf ob rfl;refine bodyPost_ret (v:=.tuple #[.int .i64 ans,.agg #[.int .i64 0,.slice none 0 0,.slice none 0 0],.int .i64 0]) (by simp [results,Tryz.results32,go_sem,z0,z1,z2]) rfl ?_;rw [EB.out];exact ⟨K5.out.next kW (fun k hk e=>by omega),_,_,rfl,xB _ _ _⟩
 obtain ⟨i,x,GX⟩:=GR.out rfl ha;have EB:=ze (show ex=(1,zhZ R (zk P) L c b d,0) from by rw [EX.out,if_pos ⟨rfl,ha⟩]);have GD:=ze (GOOD.out rfl);have GG:=ze GX;have hen:=GX.entry;have hil:=(zq1.1 GX.at_).1;have hxx:=GX.at_;have WE:=ze (show zgK L d.entry=x.2 from zbK (by rw [hen];exact hxx));have CF:=ze (show ∀ y∈zk P,y.fr.length<=16 from fun y hy=>(Xx (zrh.1 (yj.1 GD.out.1).2.2 y hy)).2);have XL:=ze (show x.2.length<=16 from (xV (zcV (yj.1 GD.out.1).2.1 x (zq2 hxx))).2)
 have RF:=ze (show d.short=false->Few d.rules∧(∀ r∈d.rules,r.1.size<=maxLen∧r.2.size<=maxLen) from fun hs=>by
  rcases GG.out.way with ⟨q,_⟩ | ⟨_,s,q2,q3,_⟩
  · rw [hs] at q;cases q
  · have hn:=GD.out.2.2.1
    have few:=zhL.few q2 (fun r hr=>⟨HR.out.size (by omega) r hr,by
     obtain ⟨_,_,_,_,q⟩:=HR.out.rules;obtain ⟨j,hj⟩:=List.mem_iff_getElem?.1 hr;obtain ⟨_,_,_,_,_,_,q2⟩:=q j r hj;exact q2.2⟩)
    rw [q3];exact ⟨.inl ⟨few.1,fun r hr=>(few.2 r hr).1⟩,fun r hr=>⟨by have:=(few.2 r hr).1;unfold maxLen;omega,(few.2 r hr).2⟩⟩)
 have YE:=ze (show zhZ R (zk P) L c b d=⟨d.entry,x.2.map (fun x=>(toW d b c x:Int)),x.2.map (zg6 R (zk P) d b c)⟩ from by unfold zhZ;rw [WE.out]);obtain ⟨ans,en,sh,rules⟩:=d;simp only at ha hen;subst ha hen;have ke:=zi (fun _=>False) (w2.alloc (.cells #[.int .i64 1,.int .i64 (i:Int),.bool sh,.slice va rules.length vc] 127)) (.cells #[.int .i64 1,.int .i64 (i:Int),.bool sh,.slice va rules.length vc,.int .i64 0,.slice none 0 0,.slice none 0 0] 131);have K4:=ze (K3.out.trans ke);have O4:=ze (ke.obj (fun e=>e) O3.out);have oe:=zh (w2.alloc (.cells #[.int .i64 1,.int .i64 (i:Int),.bool sh,.slice va rules.length vc] 127)) (.cells #[.int .i64 1,.int .i64 (i:Int),.bool sh,.slice va rules.length vc,.int .i64 0,.slice none 0 0,.slice none 0 0] 131);have GA:=ze (zew ((w2.alloc (.cells #[.int .i64 1,.int .i64 (i:Int),.bool sh,.slice va rules.length vc] 127)).alloc (.cells #[.int .i64 1,.int .i64 (i:Int),.bool sh,.slice va rules.length vc,.int .i64 0,.slice none 0 0,.slice none 0 0] 131)) 1 (i:Int) sh va rules.length vc);have RW4:=ze (zn RW.out ke (fun _ _ e=>e));obtain ⟨bx,hbx⟩:∃ bx,bx=w2.heap.size+1:=⟨_,rfl⟩;rw [zq8,<- hbx] at oe;have OE:=ze oe;have BXL:=ze (show w2.heap.size+1<=bx from by omega);have g1:((1:Int) == 1)=true:=rfl;clear EX BAD GOOD GR ke oe GX hxx K3 O3 OD RW;go_wp2_with fail;rw [<- hbx];clear hbx;generalize (w2.alloc (.cells #[.int .i64 1,.int .i64 (i:Int),.bool sh,.slice va rules.length vc] 127)).alloc (.cells #[.int .i64 1,.int .i64 (i:Int),.bool sh,.slice va rules.length vc,.int .i64 0,.slice none 0 0,.slice none 0 0] 131)=w4 at *;(with_reducible refine GA.out.mono ?_);rintro e w5 ⟨rfl,k5⟩;have K5:=ze (K4.out.trans k5);have O5:=ze (k5.obj (fun e=>e) O4.out);have OE5:=ze (k5.obj (fun e=>e) OE.out);have RW5:=ze (zn RW4.out k5 (fun _ _ e=>e));have x1:=zf (o:=1) OE5.out rfl;have x4:=zf (o:=4) OE5.out rfl;have f4:=zm (o:=4) OE5.out;have kc:=zG w5 bx 4 (.int .i64 (i:Int));have O6:=ze (kc.obj (fun e=>by have:=BXL.out;have:=HW12.out;omega) O5.out);have K6:=ze (K5.out.next kc (fun k hk e=>by have:=BXL.out;have:=HW12.out;omega))
 have RW6:=ze (zn RW5.out kc (fun k hk e=>by
  obtain ⟨cs,q⟩:=zC RW5.out hk;exact zZ q OE5.out (by decide) e))
 have E6:=ze (show zlf w1.heap.size bx (w5.setCell ⟨bx,4,none⟩ (.int .i64 (i:Int))) ⟨1,i,sh,rules⟩ va vc i (.slice none 0 0) (.slice none 0 0) [] [] (fun _=>False) from
  ⟨zt (o:=4) OE5.out _,World.ownsRow_nil _ _ _ _,World.ownsRow_nil _ _ _ _,fun z hz=>(by cases hz),fun k hk=>hk.elim⟩)
 obtain ⟨g,o,sa,sc,hla,_,d0',d1',hs⟩:=HL.out.get GG.out.at_;cases hla;have d1:=zj K6.out (fun e=>e) d1';have HS:=ze hs
 have HB6:=ze (show w1.heap.size<=(w5.setCell ⟨bx,4,none⟩ (.int .i64 (i:Int))).heap.size from by
  have h1:=BXL.out;have h2:=HW12.out;have h3:=zr OE5.out;have h4:=kc.size;omega)
 have hxl:=XL.out;clear GA k5 K4 O4 OE RW4 O5 OE5 RW5 kc hs K5 d0' d1';have hil2:(i:Int) < (L.length:Int):=by omega
 go_wp2_with fail;generalize w5.setCell ⟨bx,4,none⟩ (.int .i64 (i:Int))=w6 at *;clear x1 x4 f4 d1;generalize hdd:(⟨1,(i:Int),sh,rules⟩:zgA)=d at *;have HDD:=ze hdd;clear hdd;go_loopw [58] (fun iv wr=>∃ (k:Nat) (tv pv:Value) (T:List Int) (Q:List (zL × Value × Value)) (Gq:Nat->Prop),k<=x.2.length∧iv=.int .i64 k∧Hid (zlf w1.heap.size bx wr d va vc i tv pv T Q Gq)∧Hid (T=(x.2.take k).map (fun x=>(toW d b c x:Int))∧Q.map Prod.fst=(x.2.take k).map (zg6 R (zk P) d b c))∧Hid (Chg (fun k=>w1.heap.size<=k) w6 wr∧wr.ownsRow w1.heap.size 66 2 (.slice va rules.length vc) rules.length (zD rules))) (fun iv _=>x.2.length - (intOf iv).toNat)
 case atStart=>exact ⟨0,_,_,[],[],_,by omega,rfl,E6,ze ⟨rfl,rfl⟩,ze ⟨Chg.refl _ _,RW6.out⟩⟩
 case round=>
  obtain ⟨k,tv,pv,T,Q,Gq,hk,rfl,HE,HT,HK⟩:=hrel;have KWR:=ze (K6.out.next HK.out.1 (fun k hk e=>by omega));by_cases hlt:k < x.2.length
  · as_aux_lemma=>
    obtain ⟨y,hy⟩:∃ y,x.2[k]? = some y:=⟨_,zq0 hlt⟩;have hym:=zq2 hy;obtain ⟨_,_,e1,_,hws⟩:=(HS.out.chg KWR.out (fun _ _ e=>e)).at_;cases e1;obtain ⟨lb,lo,rfl,_,c0,hys⟩:=hws k y hy;have TL:=congrArg List.length HT.out.1;have QL:=congrArg List.length HT.out.2;rw [zq4,zq5] at TL;rw [zq4,zq4,zq5] at QL;have hrl:d.rules=rules:=by rw [<- HDD.out]
    have hsh:d.short=sh:=by rw [<- HDD.out]
    have hsz:w1.heap.size<=wr.heap.size:=Nat.le_trans HB6.out HK.out.1.size
    have AV:=ze (zov w1.heap.size bx wr d va vc i tv pv T Q Gq ra R rc _ _ P c G G3 y b HE.out (HR.out.chg KWR.out) (fun z hz=>by have:=CF.out z hz;omega) (HC.out.chg KWR.out (fun _ _ e=>e)) hys hsz (by omega) (by omega) (Xe GG.out hym).1
     (fun hs=>⟨⟨by rw [hrl];exact ZT HK.out.2 (RF.out (by rw [<- hsh];exact hs)).2,by rw [hrl];exact (RF.out (by rw [<- hsh];exact hs)).1⟩,(Xe GG.out hym).2.1 hs⟩) (fun hs=>by
      obtain ⟨s,v,_,_,_,_,e⟩:=XI GG.out hym hs;rw [e]))
    have NT:=ze (show T++[(toW d b c y:Int)]=(x.2.take (k+1)).map (fun x=>(toW d b c x:Int)) from by rw [zri,hy,HT.out.1];simp);have NQ:=ze (fun z:Value × Value=>show (Q++[(zg6 R (zk P) d b c y,z)]).map Prod.fst=(x.2.take (k+1)).map (zg6 R (zk P) d b c) from by rw [zri,hy,List.map_append,HT.out.2];simp);have TLT:=ze (fun k (e:tv.ownBlock=some k)=>HE.out.tos.lt k e);have QLT:=ze (fun k (e:pv.ownBlock=some k)=>HE.out.prf.lt k e)
    have RNE:=ze (fun k (e:(Value.slice va rules.length vc).ownBlock=some k)=>show ¬ (k=bx∨tv.ownBlock=some k∨pv.ownBlock=some k) from fun q=>by
     obtain ⟨cs,h1⟩:=zC HK.out.2 e;rcases q with q | q | q
     · exact zZ h1 HE.out.obj (by decide) q
     · obtain ⟨ds,h2⟩:=zC HE.out.tos q
       exact zZ h1 h2 (by decide) rfl
     · obtain ⟨ds,h2⟩:=zC HE.out.prf q
       exact zZ h1 h2 (by decide) rfl)
    have BXW:=ze (show w1.heap.size<=bx from by have:=BXL.out;have:=HW12.out;omega);clear hws hy hym TL QL hrl hsh HE HT;go_wp2_with fail;clear c0;(with_reducible refine AV.out.mono ?_);rintro e w7 ⟨rfl,k7,tv',pv',G',iv',sv',E7⟩;have HE7:=ze E7
    have HK7:=ze (And.intro (HK.out.1.trans (k7.mono (fun k _ e=>by
     rcases e with e | e | e
     · have:=BXW.out;omega
     · exact (TLT.out k e).1
     · exact (QLT.out k e).1))) (zn HK.out.2 k7 (fun k hk e=>RNE.out k hk e)))
    clear E7 k7 AV;go_wp2;go_roundw
    case rel=>exact ⟨k+1,tv',pv',_,_,G',by omega,by go_num,HE7,ze ⟨NT.out,NQ.out _⟩,HK7⟩
    case measure=>simp [intOf];omega
  · as_aux_lemma=>
    obtain rfl:k=x.2.length:=by omega
    have OW:=ze (show wr.heap[w.heap.size]? = some (.cells #[.int .i64 0,.slice none 0 0,.slice none 0 0] 39 (0,0)) from HK.out.1.obj (fun e=>by omega) O6.out);have TT:=ze (show T=x.2.map (fun x=>(toW d b c x:Int)) from by rw [HT.out.1,zrk]);have QQ:=ze (show Q.map Prod.fst=x.2.map (zg6 R (zk P) d b c) from by rw [HT.out.2,zrk]);obtain ⟨ta,tc,rfl⟩:=zl HE.out.tos;obtain ⟨qa,qc,rfl⟩:=zl HE.out.prf;have hda:d.ans=1:=by rw [<- HDD.out]
    have obx:=HE.out.obj;rw [hda] at obx;have OBX:=ze obx;have x0:=zf (o:=0) obx rfl;have x4:=zf (o:=4) obx rfl;have x5:=zf (o:=5) obx rfl;have x6:=zf (o:=6) obx rfl;clear hda obx HT;go_wp2_with fail;refine zu (N:=78) [.rd [0,1,2,3,4,5],.ef 6,.rd [7]] (fun W=>W.cell? ⟨bx,0,none⟩=some (.int .i64 1)∧W.cell? ⟨bx,4,none⟩=some (.int .i64 (i:Int))∧W.cell? ⟨bx,5,none⟩=some (.slice ta T.length tc)∧W.cell? ⟨bx,6,none⟩=some (.slice qa Q.length qc)) (by kernel_rfl) (by kernel_rfl) (by kernel_rfl) (by kernel_rfl) (Nat.le_of_ble_eq_true rfl) ⟨x0,x4,x5,x6⟩ ?_;refine zB (A:=?A1) ?h1 ?h2
    case h1=>
     rintro w' ⟨y0,y1,y2,y3⟩ K hK;simp only [zM,zqT,zqU,zqV,zqW,zqX]
     repeat still_step
     refine wpStill_nil ?_;exact hK
    have kd:=zw (fun _=>False) wr;have ED:=ze (HE.out.chg kd);have OWD:=ze (kd.obj (fun e=>e) OW.out);have OBD:=ze (kd.obj (fun e=>e) OBX.out);have KD:=ze (KWR.out.trans kd);clear kd HE OW OBX x0 x4 x5 x6 HK KWR;generalize wr.drew=wd at *;have d0:=zf (o:=0) OWD.out rfl;have e0:=zm (o:=0) OWD.out;have d1:=zf (o:=1) OWD.out rfl;have e1:=zm (o:=1) OWD.out;have d2:=zf (o:=2) OWD.out rfl;have e2:=zm (o:=2) OWD.out;refine zI rfl ?_;go_wp2_with fail;obtain ⟨W,hW⟩:∃ W,W=((wd.setCell ⟨w.heap.size,0,none⟩ (.int .i64 (i:Int))).setCell ⟨w.heap.size,1,none⟩ (.slice ta T.length tc)).setCell ⟨w.heap.size,2,none⟩ (.slice qa Q.length qc):=⟨_,rfl⟩;rw [<- hW];obtain ⟨ob,kW⟩:=zqw OWD.out _ _ _ W hW;clear hW d0 e0 d1 e1 d2 e2;have nbx:¬ bx=w.heap.size:=by have:=BXL.out;have:=HW12.out;omega
    have obx:=kW.obj nbx OBD.out;refine ⟨⟨zf (o:=0) obx rfl,zf (o:=4) obx rfl,zf (o:=5) obx rfl,zf (o:=6) obx rfl⟩,?_⟩;clear obx;refine zB (A:=?A2) ?h3 ?h4
    case h3=>
     intro w' hS K hK;clear hS;simp only [zM,zqT,zqU,zqV,zqW,zqX]
     repeat still_step
     refine wpStill_nil ?_;exact hK
    refine zR ?_;have z0:W.cell? ⟨w.heap.size,0,none⟩=some (.int .i64 (i:Int)):=zf ob rfl;have z1:W.cell? ⟨w.heap.size,1,none⟩=some (.slice ta T.length tc):=zf ob rfl;have z2:W.cell? ⟨w.heap.size,2,none⟩=some (.slice qa Q.length qc):=zf ob rfl;have KF:=ze (KD.out.next kW (fun k hk e=>by omega));have KWZ:=ze kW;clear kW;go_wp2_with fail;refine bodyPost_ret (v:=.tuple #[.int .i64 1,.agg #[.int .i64 (i:Int),.slice ta T.length tc,.slice qa Q.length qc],.int .i64 0]) (by simp [results,Tryz.results32,go_sem,z0,z1,z2]) rfl ?_;rw [EB.out,YE.out];refine ⟨KF.out,_,_,rfl,?_,?_⟩
    · simp only
      rw [<- TT.out];exact ((zgi ED.out.tos).chg KWZ.out (fun k hk e=>by have:=(ED.out.tos.lt k hk).1;omega)).up17 (fun k hk=>⟨by have:=(ED.out.tos.lt k hk).1;omega,zq7 (ED.out.tos.lt k hk).2 KWZ.out.size⟩)
    · simp only
      rw [<- QQ.out];have hp:=zcQ ED.out.prf ED.out.ent;have hlt:∀ k,(Gq k∨(Value.slice qa Q.length qc).ownBlock=some k)->w1.heap.size<=k∧k < wd.heap.size:=fun k hk=>hk.elim (fun q=>⟨(ED.out.gap k q).1,(ED.out.gap k q).2.1⟩) (fun q=>ED.out.prf.lt k q);exact (hp.chg KWZ.out (fun k hk e=>by have:=(hlt k hk).1;omega)).up (fun k hk=>⟨by have:=(hlt k hk).1;omega,zq7 (hlt k hk).2 KWZ.out.size⟩)
structure zoN (y:zdL):Prop where
 proof:∀ p∈y.proofs,p.items.length<=1000
structure zgB (w:World) (ra:Option Addr) (R:List zF) (rc:Nat) (v:Value) (P:List (zq × Value)):Prop where
 rules:zX w (.slice ra R.length rc) (· < w.heap.size) R
 nil:ra=none->R.length=0∧rc=0
 many:R.length<=1000000000
 certs:ym w v (· < w.heap.size) P
 few:P.length<=1000
theorem zgB.chg {w w':World} {ra:Option Addr} {R:List zF} {rc:Nat} {v:Value} {P:List (zq × Value)} (h:zgB w ra R rc v P) (k:Chg (fun _=>False) w w'):zgB w' ra R rc v P:=
 ⟨(h.rules.chg k (fun _ _ e=>e)).imp (fun _ hj=>zq7 hj k.size),h.nil,h.many,(h.certs.chg k (fun _ _ e=>e)).up (fun _ hj=>zq7 hj k.size),h.few⟩
theorem zmP {R:List zF} {C:List zq} {L:List Za} {op:Int} {c:List ByteArray} {y:zdL} (h:Ye C L c=false):zfI R C L op c y=2:=by unfold zfI;rw [if_neg (by rw [h];decide)]
theorem zpF {R:List zF} {C:List zq} {L:List Za} {op:Int} {c:List ByteArray} {y:zdL} (h:Ye C L c=true) (h2:opB op=false):zfI R C L op c y=1:=by
 unfold zfI;rw [if_pos h,if_neg (fun q=>by unfold opB at h2;rw [zqY q.1,zqY q.2] at h2;cases h2)]
theorem zmO {R:List zF} {C:List zq} {L:List Za} {op:Int} {c:List ByteArray} {y:zdL} (h:Ye C L c=true) (h2:opB op=true) (h3:¬ (atB L op y.entry=true∧(y.ways.length=(zgK L y.entry).length∧y.proofs.length=(zgK L y.entry).length)∧y.ways.all (toB c)=true)):zfI R C L op c y=10:=by
 unfold zfI;unfold opB at h2;rw [zrl,zra,zra] at h2;rw [if_pos h,if_pos h2,if_neg h3]
theorem zpG {R:List zF} {C:List zq} {L:List Za} {op:Int} {c:List ByteArray} {y:zdL} (h:Ye C L c=true) (h2:opB op=true) (h3:atB L op y.entry=true∧(y.ways.length=(zgK L y.entry).length∧y.proofs.length=(zgK L y.entry).length)∧y.ways.all (toB c)=true):zfI R C L op c y=YQ R C c (zgK L y.entry) y.ways y.proofs:=by
 unfold zfI;unfold opB at h2;rw [zrl,zra,zra] at h2;rw [if_pos h,if_pos h2,if_pos h3]
theorem zqo {c:List ByteArray} {l:List Int} {k:Nat} {t:Int} (h:l[k]? = some t):(l.take (k+1)).all (toB c)=((l.take k).all (toB c) && toB c t):=by
 rw [zri,h,List.all_append];simp
theorem zpP {c:List ByteArray} {l:List Int} {k:Nat} {t:Int} (h:l[k]? = some t) (ht:toB c t=false):l.all (toB c)=false:=by
 rw [zrm];intro q;have:=zrh.1 q t (zq2 h);rw [ht] at this;cases this
set_option maxHeartbeats 8000000 in
set_option maxRecDepth 100000 in
theorem zff (w:World) (ra:Option Addr) (R:List zF) (rc:Nat) (v lv cv tv pv:Value) (P:List (zq × Value)) (L:List Za) (op:Int) (c:List ByteArray) (y:zdL) (G2 G3:Nat->Prop) (hR:zgB w ra R rc v P) (hl:ZI w lv G2 L) (hL:L.length<=1000) (hc:zx w cv G3 c) (hy:zby w tv pv (· < w.heap.size) y) (hf:zoN y):
  Calls Tryz.prog 18 #[.slice ra R.length rc,v,lv,.int .i64 op,cv,.agg #[.int .i64 y.entry,tv,pv]] w fun e w'=>e=.returned (.int .i64 (zfI R (zk P) L op c y))∧Chg (fun _=>False) w w':=by
 have kb:=zi (fun _=>False) w (.cells #[.int .i64 y.entry,tv,pv] 39);have OB:=ze (zh w (.cells #[.int .i64 y.entry,tv,pv] 39));have LI:=ze (zjv _ v lv cv P L c _ G2 G3 (hR.certs.chg kb (fun _ _ e=>e)) (hl.chg kb (fun _ _ e=>e)) (hc.chg kb (fun _ _ e=>e)) hL);have KB:=ze kb;have HR:=ze hR;have HL:=ze hl;have HC:=ze hc;have HY:=ze hy;have HF:=ze hf;obtain ⟨_,_,rfl,_,hlm⟩:=hl.shape;obtain ⟨la,lcap,rfl,hpl,_⟩:=hR.certs;obtain ⟨_,_,rfl,hcl,_⟩:=id hc;obtain ⟨ta,tc,rfl,htl,_⟩:=hy.ways;obtain ⟨qa,qc,rfl,hql,_⟩:=hy.proofs;have F1:=ze (@zmP R (zk P) L op c y);have F2:=ze (@zpF R (zk P) L op c y);have F3:=ze (@zmO R (zk P) L op c y);have F4:=ze (@zpG R (zk P) L op c y);have TB:=ze (fun k t (h:y.ways[k]? = some t)=>@zqo c y.ways k t h);have TN:=ze (fun k t (h:y.ways[k]? = some t)=>@zpP c y.ways k t h);have PS:=ze (fun W k x t p=>@zg5 R (zk P) c W y.ways y.proofs k x t p);unfold maxLen at htl hql hcl;generalize hres:zfI R (zk P) L op c y=res at *;clear hR hl hc hy hf kb hres;go_enter Tryz.func18,Tryz.ntmps18;go_wp2_with fail;generalize w.alloc (.cells #[.int .i64 y.entry,.slice ta y.ways.length tc,.slice qa y.proofs.length qc] 39)=w1 at *;obtain ⟨b0,hb0⟩:∃ b0,b0=w.heap.size:=⟨_,rfl⟩;rw [<- hb0] at OB;rw [<- hb0];clear hb0;(with_reducible refine LI.out.mono ?_);rintro e w2 ⟨k2,hgood,hbad⟩;have K2:=ze (KB.out.trans k2);have O2:=ze (k2.obj (fun e=>e) OB.out);clear LI OB k2;cases hlb:Ye (zk P) L c with
 | false=>
  as_aux_lemma=>
  obtain rfl:=hbad hlb;have RD:=ze (F1.out hlb);clear hbad hgood hlb;go_wp2;go_ret;exact ⟨by rw [RD.out];rfl,K2.out⟩
 | true=>
 obtain ⟨bl,rfl,_,_⟩:=hgood hlb;have LB:=ze hlb;have OP:=ze (zoG w2 op);clear hbad hgood hlb;cases hop:opB op with
 | false=>
  as_aux_lemma=>
  have RD:=ze (F2.out LB.out hop);rw [hop] at OP;clear hop;go_wp2_with fail;(with_reducible refine OP.out.mono ?_);rintro e w3 ⟨rfl,rfl⟩;go_wp2;go_ret;exact ⟨by rw [RD.out];rfl,K2.out⟩
 | true=>
 rw [hop] at OP;have HOP:=ze hop;clear hop;go_wp2_with fail;(with_reducible refine OP.out.mono ?_);rintro e w3 ⟨rfl,rfl⟩;have d0:=zf (o:=0) O2.out rfl;have N3:=ze (fun h=>F3.out LB.out HOP.out h);have N4:=ze (fun h=>F4.out LB.out HOP.out h);have AB:=ze (@ziS L op y.entry);clear OP F1 F2 F3 F4;have HYE:=ze (show ∃ en,en=y.entry from ⟨_,rfl⟩);by_cases h0:y.entry < 0
 · as_aux_lemma=>
   have g0:decide (y.entry < 0)=true:=zqY h0;have RD:=ze (N3.out (fun h=>by have:=(AB.out.1 h.1).1;omega));clear h0;go_wp2;go_ret;exact ⟨by rw [RD.out];rfl,K2.out⟩
 have g0:decide (y.entry < 0)=false:=zqZ h0;by_cases h1:(L.length:Int)<=y.entry
 · as_aux_lemma=>
   have g1:decide ((L.length:Int)<=y.entry)=true:=zqY h1
   have RD:=ze (N3.out (fun h=>by
    obtain ⟨_,x,q,_⟩:=AB.out.1 h.1;have:=(zq1.1 q).1;omega))
   clear h0 h1;go_wp2;go_ret;exact ⟨by rw [RD.out];rfl,K2.out⟩
 have g1:decide ((L.length:Int)<=y.entry)=false:=zqZ h1;obtain ⟨i,hi⟩:∃ i:Nat,y.entry=i:=⟨y.entry.toNat,by omega⟩;obtain ⟨x,hx⟩:∃ x,L[i]? = some x:=⟨_,zq0 (by omega)⟩;have HI:=ze hi;have WE:=ze (show zgK L y.entry=x.2 from zbK (by rw [hi];exact hx));have HXX:=ze hx;obtain ⟨g,o,sa,sc,hla,_,x0',x1',hs⟩:=HL.out.get hx;cases hla;have HS:=ze hs;have x0:=zj K2.out (fun e=>e) x0';have x1:=zj K2.out (fun e=>e) x1';have XSL:=ze (xV (zcV (yj.1 LB.out).2.1 x (zq2 hx)));have hil:(i:Int) < (L.length:Int):=by omega
 have ATB:=ze (show atB L op y.entry=true↔x.1=op from ⟨fun h=>by
  obtain ⟨_,z,q1,q2⟩:=AB.out.1 h;have e:y.entry.toNat=i:=by rw [HI.out];simp
  rw [e,hx] at q1;cases q1;exact q2,fun h=>AB.out.2 ⟨by omega,x,by rw [HI.out];simpa using hx,h⟩⟩)
 rw [WE.out] at N3 N4;rw [hi] at d0 g0 g1;have hgi:(0:Int)<=(i:Int):=by omega
 clear hi hx hs x0' x1' h0 h1 AB HYE;obtain ⟨xo,xw⟩:=x;simp only at x0 x1 ATB N3 N4 XSL;by_cases hxo:xo=op
 rotate_left
 · as_aux_lemma=>
   have g2:(xo != op)=true:=by rw [zre];exact hxo
   have RD:=ze (N3.out (fun h=>hxo (ATB.out.1 h.1)));clear hxo;go_wp2;go_ret;exact ⟨by rw [RD.out];rfl,K2.out⟩
 have g2:(xo != op)=false:=by rw [zrf];exact hxo
 have AT:=ze (ATB.out.2 hxo);have d1:=zf (o:=1) O2.out rfl;have d2:=zf (o:=2) O2.out rfl;have xwl:=XSL.out.2;clear hxo ATB;by_cases hwl:y.ways.length=xw.length
 rotate_left
 · as_aux_lemma=>
   have g3:((y.ways.length:Int) != (xw.length:Int))=true:=by rw [zre];omega
   have RD:=ze (N3.out (fun h=>hwl h.2.1.1));clear hwl;go_wp2;go_ret;exact ⟨by rw [RD.out];rfl,K2.out⟩
 have g3:((y.ways.length:Int) != (xw.length:Int))=false:=by rw [zrf];omega
 by_cases hpl2:y.proofs.length=xw.length
 rotate_left
 · as_aux_lemma=>
   have g4:((y.proofs.length:Int) != (xw.length:Int))=true:=by rw [zre];omega
   have RD:=ze (N3.out (fun h=>hpl2 h.2.1.2));clear hwl hpl2;go_wp2;go_ret;exact ⟨by rw [RD.out];rfl,K2.out⟩
 have g4:((y.proofs.length:Int) != (xw.length:Int))=false:=by rw [zrf];omega
 have WL:=ze hwl;have PL:=ze hpl2;have hyw:y.ways.length<=16:=by omega
 have hyp:y.proofs.length<=16:=by omega
 clear hwl hpl2;go_wp2;clear g3 g4;go_loopw [77] (fun iv wr=>∃ k:Nat,k<=y.ways.length∧iv=.int .i64 k∧Hid ((y.ways.take k).all (toB c)=true)∧Hid (w2=wr)) (fun iv _=>y.ways.length - (intOf iv).toNat)
 case atStart=>exact ⟨0,by omega,rfl,ze (by simp),ze rfl⟩
 case round=>
  obtain ⟨k,hk,rfl,HA,hw⟩:=hrel;have hw:=hw.out;subst hw;by_cases hlt:k < y.ways.length
  · as_aux_lemma=>
    obtain ⟨t,ht⟩:∃ t,y.ways[k]? = some t:=⟨_,zq0 hlt⟩;obtain ⟨_,_,e1,_,hts⟩:=HY.out.ways.chg K2.out (fun _ _ e=>e);cases e1;obtain ⟨tg,tf,rfl,_,t0⟩:=hts k t ht;have NX:=ze (TB.out k t ht);have ND:=ze (TN.out k t ht);have TD:=ze (show toB c t=(decide (0<=t) && decide (t < c.length)) from rfl);clear hts ht;by_cases h0:t < 0
    · have m0:decide (t < 0)=true:=zqY h0
      have RD:=ze (N3.out (fun h=>by rw [ND.out (by rw [TD.out,zqZ (by omega)];rfl)] at h;cases h.2.2));clear h0;go_wp2;go_ret;exact ⟨by rw [RD.out];rfl,K2.out⟩
    have m0:decide (t < 0)=false:=zqZ h0;by_cases h1:(c.length:Int)<=t
    · have m1:decide ((c.length:Int)<=t)=true:=zqY h1
      have RD:=ze (N3.out (fun h=>by rw [ND.out (by rw [TD.out,zqZ (show ¬ t < (c.length:Int) from by omega),Bool.and_false])] at h;cases h.2.2));clear h0 h1;go_wp2;go_ret;exact ⟨by rw [RD.out];rfl,K2.out⟩
    have m1:decide ((c.length:Int)<=t)=false:=zqZ h1;have HA2:=ze (show (y.ways.take (k+1)).all (toB c)=true from by rw [NX.out,HA.out,TD.out,zqY (by omega),zqY (by omega)];rfl);clear h0 h1;go_wp2;go_roundw
    case rel=>exact ⟨k+1,by omega,by go_num,HA2,ze (by first | trivial | rfl)⟩
    case measure=>simp [intOf];omega
  obtain rfl:k=y.ways.length:=by omega
  have ALL:=ze (show y.ways.all (toB c)=true from by have:=HA.out;rwa [zrk] at this);have RG:=ze (show res=YQ R (zk P) c (xw.drop 0) (y.ways.drop 0) (y.proofs.drop 0) from N4.out ⟨AT.out,⟨WL.out,PL.out⟩,ALL.out⟩);clear N3 N4 HA hlt hk;go_wp2;go_loopw [92] (fun iv wr=>∃ k:Nat,k<=xw.length∧iv=.int .i64 k∧Hid (res=YQ R (zk P) c (xw.drop k) (y.ways.drop k) (y.proofs.drop k)∧Chg (fun _=>False) w2 wr)) (fun iv _=>xw.length - (intOf iv).toNat)
  case atStart=>exact ⟨0,by omega,rfl,ze ⟨RG.out,Chg.refl _ _⟩⟩
  case round=>
   obtain ⟨k,hk,rfl,HI2⟩:=hrel;by_cases hlt:k < xw.length
   · as_aux_lemma=>
     have KW:=ze (K2.out.trans HI2.out.2);obtain ⟨z,hz⟩:∃ z,xw[k]? = some z:=⟨_,zq0 hlt⟩;obtain ⟨t,ht⟩:∃ t,y.ways[k]? = some t:=⟨_,zq0 (by have:=WL.out;omega)⟩;obtain ⟨p,hp⟩:∃ p,y.proofs[k]? = some p:=⟨_,zq0 (by have:=PL.out;omega)⟩;have htb:=zrh.1 ALL.out t (zq2 ht);unfold toB at htb;rw [zrl,zra,zra] at htb;obtain ⟨n,rfl⟩:∃ n:Nat,t=n:=⟨t.toNat,by omega⟩;obtain ⟨u,hu⟩:∃ u,c[n]? = some u:=⟨_,zq0 (by omega)⟩
     have ST:=ze (show res=if yZ R (zk P) p z u=0 then YQ R (zk P) c (xw.drop (k+1)) (y.ways.drop (k+1)) (y.proofs.drop (k+1)) else yZ R (zk P) p z u from by
      have:=PS.out xw k z n p hz ht hp;rw [Int.toNat_natCast,zq6,hu,Option.getD_some] at this;rw [HI2.out.1,this])
     obtain ⟨_,_,e1,_,hws⟩:=(HS.out.chg KW.out (fun _ _ e=>e)).at_;cases e1;obtain ⟨zg,zo,rfl,_,z0,hzs⟩:=hws k z hz;obtain ⟨_,_,e1,_,hts⟩:=HY.out.ways.chg KW.out (fun _ _ e=>e);cases e1;obtain ⟨tg,tf,rfl,_,t0⟩:=hts k _ ht;obtain ⟨_,_,e1,_,hus⟩:=HC.out.chg KW.out (fun _ _ e=>e);cases e1;obtain ⟨ug,uo,rfl,_,u0,_⟩:=hus n u hu;obtain ⟨_,_,e1,_,hps⟩:=HY.out.proofs.chg KW.out (fun _ _ e=>e);cases e1;obtain ⟨pg,po,iv,sv,rfl,_,p0,p1,hpp⟩:=hps k p hp;have HPP:=ze (hpp.up (fun j hj=>zq7 hj KW.out.size));have HRW:=ze (HR.out.chg KW.out);have OW:=ze (HI2.out.2.obj (fun e=>e) O2.out);have CKX:=ze (fun (W:World) (kk:Chg (fun _=>False) wr W)=>ziK W ra R rc _ iv sv P p z u (HRW.out.chg kk).rules (HRW.out.nil) HRW.out.many (HRW.out.chg kk).certs HRW.out.few (HPP.out.chg kk (fun _ _ e=>e) |>.up (fun j hj=>zq7 hj kk.size)) (HF.out.proof p (zq2 hp)) hzs);obtain ⟨i1,i2,rfl⟩:=HPP.out.items.shape;obtain ⟨s1,s2,rfl⟩:=HPP.out.steps.shape;have hn2:(n:Int) < (c.length:Int):=htb.2;have e1:=zf (o:=1) OW.out rfl;have e2:=zf (o:=2) OW.out rfl;have hkw:k < y.ways.length:=(zq1.1 ht).1;have hkp:k < y.proofs.length:=(zq1.1 hp).1;clear hws hts hus hps hz ht hp hu hpp hzs htb d0 d1 d2 x0 x1 PS;generalize yZ R (zk P) p z u=ck at *;go_wp2_with fail;refine zu (N:=118) [.rd [0,1,2,3,4,5,6,7,8,9,10,11,12,13,14,15],.ef 16,.rd [17]] (fun W=>W.cell? ⟨b0,1,none⟩=some (.slice (some ⟨tg,tf,none⟩) y.ways.length tc)∧W.cell? ⟨b0,2,none⟩=some (.slice (some ⟨pg,po,none⟩) y.proofs.length qc)∧W.cell? ⟨tg,tf+k,none⟩=some (.int .i64 (n:Int))∧W.cell? ⟨ug,uo+n,none⟩=some (.string u)∧W.cell? ⟨pg,po+k*2,none⟩=some (.slice i1 p.items.length i2)∧W.cell? ⟨pg,po+k*2+1,none⟩=some (.slice s1 p.steps.length s2)) (by kernel_rfl) (by kernel_rfl) (by kernel_rfl) (by kernel_rfl) (Nat.le_of_ble_eq_true rfl) ⟨e1,e2,t0,u0,p0,p1⟩ ?_;refine zB (A:=?A1) ?h1 ?h2
     case h1=>
      rintro w' ⟨y0,y1,y2,y3,y4,y5⟩ K hK;simp only [zM,zqT,zqU,zqV,zqW,zqX]
      repeat still_step
      refine wpStill_nil ?_;exact hK
     have kd:=zw (fun _=>False) wr;have CKD:=ze (CKX.out _ kd);have KD:=ze (HI2.out.2.trans kd);have PR:=ze (fun (W:World) (kk:Chg (fun _=>False) wr W)=>(show W.cell? ⟨b0,1,none⟩=some (.slice (some ⟨tg,tf,none⟩) y.ways.length tc)∧W.cell? ⟨b0,2,none⟩=some (.slice (some ⟨pg,po,none⟩) y.proofs.length qc)∧W.cell? ⟨tg,tf+k,none⟩=some (.int .i64 (n:Int))∧W.cell? ⟨ug,uo+n,none⟩=some (.string u)∧W.cell? ⟨pg,po+k*2,none⟩=some (.slice i1 p.items.length i2)∧W.cell? ⟨pg,po+k*2+1,none⟩=some (.slice s1 p.steps.length s2) from ⟨zj kk (fun e=>e) e1,zj kk (fun e=>e) e2,zj kk (fun e=>e) t0,zj kk (fun e=>e) u0,zj kk (fun e=>e) p0,zj kk (fun e=>e) p1⟩));have KDR:=ze kd;clear kd CKX e1 e2 t0 u0 p0 p1 z0 HI2;generalize wr.drew=wd at *;refine zI rfl ?_;go_wp2_with fail;(with_reducible refine CKD.out.mono ?_);rintro e w7 ⟨rfl,k7⟩;have K7:=ze (KD.out.trans k7);have P7:=ze (PR.out w7 (KDR.out.trans k7));clear CKD k7 KD PR KDR;go_wp2_with fail;refine ⟨P7.out,?_⟩;refine zB (A:=?A2) ?h3 ?h4
     case h3=>
      intro w' hS K hK;clear hS;simp only [zM,zqT,zqU,zqV,zqW,zqX]
      repeat still_step
      refine wpStill_nil ?_;exact hK
     refine zR ?_;by_cases hck:ck=0
     · have RN:=ze (show res=YQ R (zk P) c (xw.drop (k+1)) (y.ways.drop (k+1)) (y.proofs.drop (k+1)) from by rw [ST.out,if_pos hck])
       subst hck;clear ST;go_wp2;go_roundw
       case rel=>exact ⟨k+1,by omega,by go_num,ze ⟨RN.out,K7.out⟩⟩
       case measure=>simp [intOf];omega
     · have RN:=ze (show res=ck from by rw [ST.out,if_neg hck])
       have g5:(ck != 0)=true:=by rw [zre];exact hck
       clear ST hck;go_wp2;go_ret;exact ⟨by rw [RN.out];rfl,K2.out.trans K7.out⟩
   · as_aux_lemma=>
     obtain rfl:k=xw.length:=by omega
     have RN:=ze (show res=0 from by rw [HI2.out.1,List.drop_length];unfold YQ;rfl);go_wp2;go_ret;exact ⟨by rw [RN.out];rfl,K2.out.trans HI2.out.2⟩
end Go.Proofs.YthdfplafihmejaaGreat



namespace Go.Proofs.YthdfplafihmejaaGreat
open Go.RowKit Go.Maps
open Classical in
section
end
end Go.Proofs.YthdfplafihmejaaGreat


namespace Go.Proofs.YthdfplafihmejaaGreat
open Go.RowKit
theorem zmU {R:List zF} {b:Int} {t:ByteArray}:∀ {l:List ByteArray},xM R b t l=(false,0)->∃ w∈l,zH R w b=0∧Xk R w t b=false
 | [],h=>by simp [xM] at h
 | w :: l,h=>by
  unfold xM at h;by_cases h1:zH R w b=0
  ·rw [if_pos h1] at h
   by_cases h2:Xk R w t b=true
   ·rw [if_pos h2] at h
    obtain ⟨x,hx,q⟩:=zmU h;exact ⟨x,List.mem_cons_of_mem _ hx,q⟩
   ·exact ⟨w,List.mem_cons_self,h1,by simpa using h2⟩
  ·rw [if_neg h1] at h
   exact absurd (Prod.mk.inj h).2 h1
end Go.Proofs.YthdfplafihmejaaGreat
