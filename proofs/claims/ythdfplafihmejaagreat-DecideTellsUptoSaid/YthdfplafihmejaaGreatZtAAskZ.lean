/-
  The reference's Walk and Path, beside the program's. The reference's run, as the arguments are. The reference's Make. AAsk: what else.
-/
import Derived.Test.YthdfplafihmejaaGreatZtUPlainY
import Derived.Test.YthdfplafihmejaaGreatZtAEntZ
import Derived.Test.YthdfplafihmejaaGreatZtBaseZ
import Derived.Test.YthdfplafihmejaaGreatZtRRefAZ
import Derived.Test.YthdfplafihmejaaGreatZtVShort
import Derived.Test.YthdfplafihmejaaGreatZtDRun
import Derived.Test.YthdfplafihmejaaGreatZtCLike
import Derived.Test.YthdfplafihmejaaGreatZtVPlain
import Derived.Test.YthdfplafihmejaaGreatZtVPlain2
import Derived.Test.YthdfplafihmejaaGreatZtDCheckZ
import Derived.Test.YthdfplafihmejaaGreatZtQRef3
import Derived.Test.YthdfplafihmejaaGreatZtUPlain
namespace Go.Proofs.YthdfplafihmejaaGreat
open Go.RowKit Go.Maps
section
variable {w:World} {v:Value} {R:List zF} {s:ByteArray} {b:Int}
set_option maxRecDepth 100000 in
theorem zlO (hA:zbA w v R s) (h47:xt R) (hs:s.size<=140737488355328) (t:ByteArray) {k:Int} (h:zH R s b=k) (hk:k≠0):Calls Tryz.prog 68 #[v,.string s,.string t,.int .i64 b] w fun e w'=>e=.returned (.tuple #[.slice none 0 0,.int .i64 k])∧Chg (fun _=>False) w w':=by
  have W:=ze (zeb hA h47 hs h hk);have g:(k != 0)=true:=by rw [zre];exact hk
  obtain ⟨la,cap,rfl,_,_⟩:=hA.rules;clear hA h hk;go_enter Tryz.func68,Tryz.ntmps68;go_wp2_with fail;(with_reducible refine W.out.mono ?_);rintro e w' ⟨rfl,kc⟩;go_wp2;go_ret2;exact ⟨rfl,kc⟩
set_option maxRecDepth 100000 in
theorem zkc (hA:zbA w v R s) (h47:xt R) (t:ByteArray) (h:zH R s b=0) {r:List Ent} (hr:zdz R s b=some r) (hin:t.data.toList ∉ zv r):Calls Tryz.prog 68 #[v,.string s,.string t,.int .i64 b] w fun e w'=>e=.returned (.tuple #[.slice none 0 0,.int .i64 10])∧Chg (fun _=>False) w w':=by
  have W:=ze (zdA hA h47 h hr);obtain ⟨h1,_⟩:=Zb h;obtain ⟨m1,m2,m3,m4⟩:=ZE h1;obtain ⟨s1,s2,s3⟩:=XG (by omega) hr;obtain ⟨la,cap,rfl,_,_⟩:=hA.rules;have PLA:=ze (fun w' base bb lv fv bv (hX:zb2 w' base bb lv fv bv r r r)=>zbj w' base bb lv fv bv r r r t hX (by omega));rw [show Xo r t.data.toList=-1 from if_neg hin] at PLA;clear hA h hr h1 m1 m2 m3 m4 s1 s2 s3 hin;go_enter Tryz.func68,Tryz.ntmps68;go_wp2_with fail;(with_reducible refine W.out.mono ?_);rintro e w' ⟨bb,rfl,⟨lv,fv,bv,hX⟩,kc⟩;have PL:=ze (PLA.out _ _ _ _ _ _ hX);clear hX PLA;go_wp2_with fail;(with_reducible refine PL.out.mono ?_);rintro e w2 ⟨rfl,rfl⟩;go_wp2;go_ret2;exact ⟨rfl,kc⟩
theorem zmu {w:World} {base b:Nat} {lv bv:Value} {a:Option Addr} {n c:Nat} {r r1 r3:List Ent} (h:zb2 w base b lv (.slice a n c) bv r1 r r3) {i:Nat} (hi:i < r.length):∃ g,a=some ⟨g,0,none⟩∧w.cell? ⟨g,i,none⟩=some (.int .i64 (YX r i).2.1):=by
  have ho:=h.hf;obtain ⟨a',c',e⟩:=zl ho;cases e;obtain ⟨g,rfl⟩:=ZA ho (by omega);refine ⟨g,rfl,?_⟩;rw [ho.cellAt i (by omega)];unfold zcN YX;rw [zrb,zq6,zq0 hi];rfl
theorem zmt {w:World} {base b:Nat} {lv fv:Value} {a:Option Addr} {n c:Nat} {r r1 r2:List Ent} (h:zb2 w base b lv fv (.slice a n c) r1 r2 r) {i:Nat} (hi:i < r.length):∃ g,a=some ⟨g,0,none⟩∧w.cell? ⟨g,i*2,none⟩=some (.int .i64 ((YX r i).2.2.1:Int))∧w.cell? ⟨g,i*2+1,none⟩=some (.int .i64 ((YX r i).2.2.2:Int)):=by
  have ho:=h.hs;obtain ⟨a',c',e⟩:=zl ho;cases e;obtain ⟨g,rfl⟩:=ZA ho (by omega);have hq:=zbo (r.map fun e=>e.2.2) i (YX r i).2.2 (by unfold YX;rw [zrb,zq6,zq0 hi];rfl);refine ⟨g,rfl,?_,?_⟩
  · rw [ho.cellAt _ (by omega),Nat.mul_comm];exact hq.1
  · rw [ho.cellAt _ (by omega),Nat.mul_comm];exact hq.2
set_option maxHeartbeats 1000000 in
set_option maxRecDepth 100000 in
theorem znB (hA:zbA w v R s) (h47:xt R) (t:ByteArray) (h:zH R s b=0) {r:List Ent} (hr:zdz R s b=some r) (hin:t.data.toList∈zv r):
    Calls Tryz.prog 68 #[v,.string s,.string t,.int .i64 b] w fun e w'=>∃ va,e=.returned (.tuple #[va,.int .i64 0])∧w'.ownsRow w.heap.size 153 2 va (Yi r ((zv r).idxOf t.data.toList)).length (yq (Yi r ((zv r).idxOf t.data.toList)))∧Chg (fun _=>False) w w':=by
  have W:=ze (zdA hA h47 h hr);obtain ⟨h1,_⟩:=Zb h;obtain ⟨m1,m2,m3,m4⟩:=ZE h1;obtain ⟨s1,s2,s3⟩:=XG (by omega) hr;obtain ⟨la,cap,rfl,_,_⟩:=hA.rules;have FR:=ze (zf1 hr);have PLA:=ze (fun w' base bb lv fv bv (hX:zb2 w' base bb lv fv bv r r r)=>zbj w' base bb lv fv bv r r r t hX (by omega));rw [show Xo r t.data.toList=(((zv r).idxOf t.data.toList:Nat):Int) from if_pos hin] at PLA;have hil:(zv r).idxOf t.data.toList < r.length:=by rw [<- Zm];exact List.idxOf_lt_length_of_mem hin
  generalize (zv r).idxOf t.data.toList=i0 at *;have PW:=ze ((zcR FR.out i0 hil).2);have hrl:r.length<=5000:=by omega
  clear hA h hr hin h1 m1 m2 m3 m4 s1 s2 s3;go_enter Tryz.func68,Tryz.ntmps68;go_wp2_with fail;(with_reducible refine W.out.mono ?_);rintro e w1 ⟨bb,rfl,⟨lv,fv,bv,hX⟩,kc⟩;have PL:=ze (PLA.out _ _ _ _ _ _ hX);obtain ⟨fa,fc,rfl⟩:=zl hX.hf;obtain ⟨sa,sc,rfl⟩:=zl hX.hs;have HX:=ze hX;have KC:=ze kc;clear hX PLA kc W;go_wp2_with fail;(with_reducible refine PL.out.mono ?_);rintro e w2 ⟨rfl,rfl⟩;go_wp2;go_loopw [12,13] (fun iv lv wr=>∃ (k:Nat) (L:List (Nat × Nat)),k<=i0∧iv=.int .i64 k∧Hid (Yi r i0=Yi r k++L∧wr.ownsRow w1.heap.size 153 2 lv L.length (yq L)∧Chg (fun _=>False) w1 wr)) (fun iv _ _=>(intOf iv).toNat)
  case atStart=>exact ⟨i0,[],zrj _,rfl,ze ⟨by simp,ZH _ _ _ _ (zrj _),zi _ _ _⟩⟩
  case round=>
    obtain ⟨k,L,hk,rfl,HI⟩:=hrel;have ho:=HI.out.2.1;have hc:=HI.out.2.2;obtain ⟨a13,c13,e13⟩:=zl ho;subst e13;have HO:=ze ho;have hsz:=hc.size
    have hLl:L.length<=5000:=by
      have h1:=PW.out;rw [HI.out.1,zq3] at h1;omega
    have hXr:=zb2.chg HX.out hc (fun _ _ e=>e);have hfr:=zmu hXr (show k < r.length by omega);have hst:=zmt hXr (show k < r.length by omega);obtain ⟨gf,rfl,f0⟩:=hfr;obtain ⟨gs,rfl,f1,f2⟩:=hst;have c1:wr.cell? ⟨bb,1,none⟩=some (.slice (some ⟨gf,0,none⟩) r.length fc):=zf hXr.hb rfl;have c2:wr.cell? ⟨bb,2,none⟩=some (.slice (some ⟨gs,0,none⟩) r.length sc):=zf hXr.hb rfl;have HC:=ze hc;have hkr:k < r.length:=by omega
    clear ho hXr hc;by_cases hk0:0 < k
    · obtain ⟨j,hjk,hj1,hj2⟩:=FR.out.back k hk0 (by omega)
      have PS:=ze (zeh FR.out (by omega) hk0 hj1 hjk);rw [hj1] at f0;generalize (YX r k).2.2=st at *;obtain ⟨st1,st2⟩:=st;simp only at f1 f2;have GK:=ze (show ∀ W,Chg (fun _=>False) wr W->W.cell? ⟨bb,1,none⟩=some (.slice (some ⟨gf,0,none⟩) r.length fc)∧W.cell? ⟨gf,k,none⟩=some (.int .i64 (j:Int)) from fun W h=>⟨zj h (fun e=>e) c1,zj h (fun e=>e) f0⟩);clear hj1 hj2;go_wp2_with (at_builtin;refine zV rfl (.tmp 45) (.tmp 46) 81 rfl 153 2 16 Tryz.underlying81 Tryz.elemStep wr.heap.size _ 1 [.int .i64 (st1:Int),.int .i64 (st2:Int)] rfl (World.ownsRow_lit wr #[.int .i64 (st1:Int),.int .i64 (st2:Int)] 1 (zrj _) (by unfold maxLen;omega) rfl) a13 L.length c13 (yq L) rfl ?n1 ?n2 ?n3 ?n4 ?n5 ?n6 ?n7 ?next2)
      case n1=>rw [zaA];omega
      case n2=>
        intro j u hj;have hjl:=(zq1.1 hj).1;rw [zaA] at hjl;obtain ⟨g,rfl⟩:=ZA HO.out (by omega);refine ⟨g,0,rfl,?_⟩;refine zj (zi (fun _=>False) wr _) (fun e=>e) ?_;rw [Nat.zero_add,HO.out.cellAt j (by omega)];exact hj
      case n3=>
        intro e;obtain ⟨_,⟨q1,q2⟩ | ⟨g,cap,cur,q1,_⟩⟩:=HO.out
        · simp at q1;exact ⟨q2,q1.2.2⟩
        · rw [e] at q1;cases q1
      case n4=>
        intro u hu;unfold yq at hu;rw [List.mem_flatMap] at hu;obtain ⟨x,_,hx⟩:=hu;simp at hx;rcases hx with rfl | rfl <;> rfl
      case n5=>omega
      case n6=>unfold maxLen;omega
      case n7=>simp
      intro v2 w2 o2 g2
      have k2:Chg (fun _=>False) wr w2:=(zi (fun _=>False) wr (.cells #[.int .i64 (st1:Int),.int .i64 (st2:Int)] 153)).next (Chg.of_grown g2) (fun x hx e=>by
        have e2:wr.heap.size=x:=by simpa [Value.ownBlock] using e
        omega)
      obtain ⟨d1,d0⟩:=GK.out _ k2
      have O2:=ze (show w2.ownsRow w1.heap.size 153 2 v2 ((st1,st2) :: L).length (yq ((st1,st2) :: L)) from by
        have:=xE o2 hsz;rw [List.length_cons,Nat.add_comm L.length 1];exact this)
      have K2:=ze (HC.out.trans k2);clear c1 c2 f0 f1 f2 g2 o2 k2;go_wp2;go_roundw
      case rel=>
        refine ⟨j,(st1,st2) :: L,by omega,rfl,ze ⟨?_,O2.out,K2.out⟩⟩;rw [HI.out.1,PS.out];simp
      case measure=>simp [intOf];omega
    · obtain rfl:k=0:=by omega
      have PE:=ze (show Yi r i0=L by rw [HI.out.1,zeg];rfl);rw [FR.out.first] at f0;go_wp2;go_ret2;refine ⟨_,rfl,?_,KC.out.trans HC.out⟩;rw [PE.out];exact xE HO.out KC.out.size
theorem zgX (hA:zbA w v R s) (h47:xt R) (t:ByteArray) (h:ZU R s t b=0):Calls Tryz.prog 68 #[v,.string s,.string t,.int .i64 b] w fun e w'=>∃ va,e=.returned (.tuple #[va,.int .i64 0])∧w'.ownsRow w.heap.size 153 2 va (xT R s t b).length (Zv (xT R s t b))∧Chg (fun _=>False) w w':=by
  unfold xT;rw [if_pos h];unfold ZU at h;by_cases h0:zH R s b=0
  · rw [if_pos h0] at h
    obtain ⟨_,r,hr⟩:=Zb h0;have er:zeT R s b=r:=by unfold zeT;rw [hr];rfl
    rw [er] at h ⊢;by_cases hin:t.data.toList∈zv r
    · have e2:=zd7 (Yi r ((zv r).idxOf t.data.toList))
      unfold zk8 at e2;rw [e2,zq4];exact znB hA h47 t h0 hr hin
    · rw [if_neg hin] at h
      cases h
  · rw [if_neg h0] at h
    exact absurd h h0
theorem znC (hA:zbA w v R s) (h47:xt R) (hs:s.size<=140737488355328) (t:ByteArray) (h:ZU R s t b≠0):Calls Tryz.prog 68 #[v,.string s,.string t,.int .i64 b] w fun e w'=>e=.returned (.tuple #[.slice none 0 0,.int .i64 (ZU R s t b)])∧Chg (fun _=>False) w w':=by
  by_cases h0:zH R s b=0
  · obtain ⟨_,r,hr⟩:=Zb h0
    have er:zeT R s b=r:=by unfold zeT;rw [hr];rfl
    unfold ZU at h ⊢;rw [if_pos h0,er] at h ⊢;by_cases hin:t.data.toList∈zv r
    · rw [if_pos hin] at h
      exact absurd rfl h
    · rw [if_neg hin]
      exact zkc hA h47 t h0 hr hin
  · unfold ZU
    rw [if_neg h0];exact zlO hA h47 hs t rfl h0
end
section
variable {w:World} {ra:Option Addr} {R:List zF} {rc:Nat} {v:Value} {P:List (zq × Value)} {G:Nat->Prop}
theorem zpb (h:Yb w ra R rc v P G) (h47:xt R) (hcs:∀ c∈zk P,c.sp.size<=140737488355328∧zaa c.fr) {b:Int} {s:ASt} (hs:Zc R (zk P) b=.ok s):Calls Tryz.prog 21 #[.slice ra R.length rc,v,.int .i64 b] w (zhL w s):=
 (zcL w ra R rc v P b G h.rules h.nil h.many h.size h.certs h.few h47 hcs).mono fun e w' ⟨hc,hr⟩=>by
  rcases hr with ⟨k,_,hk,_⟩ | ⟨t,oa,va,oc,vc,ht,he,h1,h2⟩
  ·rw [hs] at hk;cases hk
  ·rw [hs] at ht;cases ht
   exact ⟨oa,va,oc,vc,he,h1,h2,hc⟩
theorem znA (h:Yb w ra R rc v P G) (h47:xt R) (hcs:∀ c∈zk P,c.sp.size<=140737488355328∧zaa c.fr) {b k:Int} (hs:Zc R (zk P) b=.error k):Calls Tryz.prog 21 #[.slice ra R.length rc,v,.int .i64 b] w (zoR w k):=
 (zcL w ra R rc v P b G h.rules h.nil h.many h.size h.certs h.few h47 hcs).mono fun e w' ⟨hc,hr⟩=>by
  rcases hr with ⟨j,hj,hk,he⟩ | ⟨t,oa,va,oc,vc,ht,he,h1,h2⟩
  ·rw [hs] at hk;cases hk
   exact ⟨hj,he,hc⟩
  ·rw [hs] at ht;cases ht
end
structure zm7 (W:World) (b0 bR base:Nat) (oa va:Option Addr) (oc vc:Nat) (s:ASt) (vp:Value) (wb:Nat) (L:zE):Prop where
 out:W.heap[b0]? = some (.cells #[.slice none 0 0,.slice none 0 0] 83 (0,0))
 res:W.heap[bR]? = some (.cells #[.slice oa s.order.length oc,.slice va s.rules.length vc] 52 (0,0))
 ord:W.ownsRow base 3 1 (.slice oa s.order.length oc) s.order.length (Yj s.order)
 rul:W.ownsRow base 66 2 (.slice va s.rules.length vc) s.rules.length (zD s.rules)
 stp:W.ownsRow wb 153 2 vp L.length (Zv L)
theorem zm7.chg {W W':World} {b0 bR base:Nat} {oa va:Option Addr} {oc vc:Nat} {s:ASt} {vp:Value} {wb:Nat} {L:zE} (h:zm7 W b0 bR base oa va oc vc s vp wb L) {S:Nat->Prop} (k:Chg S W W') (hS:∀ i,S i->W.heap.size<=i):zm7 W' b0 bR base oa va oc vc s vp wb L:=by
 have ne:∀ {i:Nat},i < W.heap.size->¬ S i:=fun h e=>by have:=hS _ e;omega
 exact ⟨k.obj (ne (zr h.out)) h.out,k.obj (ne (zr h.res)) h.res,zn h.ord k (fun i hi=>ne (h.ord.lt i hi).2),zn h.rul k (fun i hi=>ne (h.rul.lt i hi).2),zn h.stp k (fun i hi=>ne (h.stp.lt i hi).2)⟩
set_option maxHeartbeats 16000000 in
set_option maxRecDepth 100000 in
theorem zlR (w:World) (ra:Option Addr) (R:List zF) (rc:Nat) (v:Value) (P:List (zq × Value)) (G:Nat->Prop) (b:Int) (x u:ByteArray) (h:Yb w ra R rc v P G) (hx:x.size<=maxLen) (hu:u.size<=maxLen) (hF:∀ c∈zk P,c.fr.length<=1000) (h47:xt R) (hcs:∀ c∈zk P,c.sp.size<=140737488355328∧zaa c.fr) (hx47:x.size<=140737488355328):
  Calls Tryz.prog 38 #[.slice ra R.length rc,v,.string x,.string u,.int .i64 b] w (znc w (xl R (zk P) x u b)):=by
 have HA:=ze h;have HX:=ze hx;have HU:=ze hu
 have RSZ:=ze (show R.length<=400->∀ r∈R,r.1.size<=400∧r.2.size<=maxLen from fun hl r hr=>⟨h.size hl r hr,by
  obtain ⟨_,_,_,_,q⟩:=h.rules;obtain ⟨j,hj⟩:=List.mem_iff_getElem?.1 hr;obtain ⟨_,_,_,_,_,_,q2⟩:=q j r hj;exact q2.2⟩)
 obtain ⟨la,lcap,rfl,_,_⟩:=h.certs;have k1:=zi (fun _=>False) w (.cells #[.slice none 0 0,.slice none 0 0] 83);have O1:=ze (zh w (.cells #[.slice none 0 0,.slice none 0 0] 83));have K1:=ze k1;have h1:=h.chg k1;clear k1 h hx hu;cases hacc:Zc R (zk P) b with
 | error k=>
  as_aux_lemma=>
  have ME:xl R (zk P) x u b=(k,⟨[],[]⟩):=by unfold xl;rw [hacc]
  rw [ME];have RUN:=ze (znA h1 h47 hcs hacc);clear hacc ME h1;go_enter Tryz.func38,Tryz.ntmps38;go_wp2_with fail;generalize w.alloc (.cells #[.slice none 0 0,.slice none 0 0] 83)=w1 at *;(with_reducible refine RUN.out.mono ?_);rintro e w2 ⟨hk0,rfl,k2⟩;have kb:=zi (fun _=>False) w2 (.cells #[.slice none 0 0,.slice none 0 0] 52);have O1b:=ze (kb.obj (fun e=>e) (k2.obj (fun e=>e) O1.out));have KB:=ze (K1.out.trans (k2.trans kb));have g0:(k != 0)=true:=by rw [zre];exact hk0
  have d0:=zf (o:=0) O1b.out rfl;have e0:=zm (o:=0) O1b.out;have d1:=zf (o:=1) O1b.out rfl;have e1:=zm (o:=1) O1b.out;clear kb RUN k2 hk0;go_wp2;obtain ⟨W,hW⟩:∃ W,W=((w2.alloc (.cells #[.slice none 0 0,.slice none 0 0] 52)).setCell ⟨w.heap.size,0,none⟩ (.slice none 0 0)).setCell ⟨w.heap.size,1,none⟩ (.slice none 0 0):=⟨_,rfl⟩;rw [<- hW];obtain ⟨ob,kW⟩:=zd6 O1b.out _ _ W hW;clear hW;have z0:W.cell? ⟨w.heap.size,0,none⟩=some (.slice none 0 0):=zf ob rfl;have z1:W.cell? ⟨w.heap.size,1,none⟩=some (.slice none 0 0):=zf ob rfl;refine bodyPost_ret (v:=.tuple #[.agg #[.slice none 0 0,.slice none 0 0],.int .i64 k]) (by simp [results,Tryz.results38,go_sem,z0,z1]) rfl ?_;exact ⟨KB.out.next kW (fun k hk e=>by omega),_,_,rfl,Xs _ _,zbl _ _ _ _⟩
 | ok s=>
 have RUN:=ze (zpb h1 h47 hcs hacc);obtain ⟨hc1,hc2,hc3,hc4⟩:=zcC hacc;have INV:=ze (YH hacc).1.inv;have F47:=ze (zab.fit47 INV.out h47 hcs);have HCS:=ze hcs;have FEW:=ze (zhL.few hacc (RSZ.out (by omega)));clear hc1 hc2 hc3 hc4 h1 RSZ;generalize hq:xl R (zk P) x u b=q;go_enter Tryz.func38,Tryz.ntmps38;go_wp2_with fail;have hs01:w.heap.size < (w.alloc (.cells #[.slice none 0 0,.slice none 0 0] 83)).heap.size:=by rw [zq8];omega
 generalize w.alloc (.cells #[.slice none 0 0,.slice none 0 0] 83)=w1 at *;(with_reducible refine RUN.out.mono ?_);rintro e w2 ⟨oa,va,oc,vc,rfl,hoo,hor,k2⟩;have kb:=zi (fun _=>False) w2 (.cells #[.slice oa s.order.length oc,.slice va s.rules.length vc] 52);have K3:=ze (K1.out.trans (k2.trans kb));have O13:=ze (kb.obj (fun e=>e) (k2.obj (fun e=>e) O1.out));have OR3:=ze (zh w2 (.cells #[.slice oa s.order.length oc,.slice va s.rules.length vc] 52));have OO3:=ze (zn hoo kb (fun _ _ e=>e));have RR3:=ze (zn hor kb (fun _ _ e=>e));have SZ:=ze (show ∀ r∈s.rules,r.1.size<=maxLen∧r.2.size<=maxLen from fun r hr=>⟨by have:=(FEW.out.2 r hr).1;unfold maxLen;omega,(FEW.out.2 r hr).2⟩);have ASK:=ze (show zbA (w2.alloc (.cells #[.slice oa s.order.length oc,.slice va s.rules.length vc] 52)) (.slice va s.rules.length vc) s.rules x from ⟨ZT RR3.out SZ.out,.inl ⟨FEW.out.1,fun r hr=>(FEW.out.2 r hr).1⟩,HX.out⟩);have q0:=zf (o:=0) OR3.out rfl;have q1:=zf (o:=1) OR3.out rfl;have HS13:=ze (show w1.heap.size<=(w2.alloc (.cells #[.slice oa s.order.length oc,.slice va s.rules.length vc] 52)).heap.size from Nat.le_trans k2.size kb.size);clear k2 kb hoo hor RUN O1;by_cases htp:ZU s.rules x u b=0
 rotate_left
 ·as_aux_lemma=>
  have ME:q=(ZU s.rules x u b,⟨[],[]⟩):=by rw [<- hq];unfold xl;rw [hacc];exact if_neg htp
  have PA:=ze (znC ASK.out F47.out hx47 u htp);clear hacc ASK hq;subst ME;generalize ZU s.rules x u b=k at *;go_wp2_with fail;generalize w2.alloc (.cells #[.slice oa s.order.length oc,.slice va s.rules.length vc] 52)=w3 at *;(with_reducible refine PA.out.mono ?_);rintro e w4 ⟨rfl,k4⟩;have O1b:=ze (k4.obj (fun e=>e) O13.out);have KB:=ze (K3.out.trans k4);have g0:(k != 0)=true:=by rw [zre];exact htp
  have d0:=zf (o:=0) O1b.out rfl;have e0:=zm (o:=0) O1b.out;have d1:=zf (o:=1) O1b.out rfl;have e1:=zm (o:=1) O1b.out;clear PA k4 htp q0 q1;go_wp2;obtain ⟨W,hW⟩:∃ W,W=(w4.setCell ⟨w.heap.size,0,none⟩ (.slice none 0 0)).setCell ⟨w.heap.size,1,none⟩ (.slice none 0 0):=⟨_,rfl⟩;rw [<- hW];obtain ⟨ob,kW⟩:=zd6 O1b.out _ _ W hW;clear hW;have z0:W.cell? ⟨w.heap.size,0,none⟩=some (.slice none 0 0):=zf ob rfl;have z1:W.cell? ⟨w.heap.size,1,none⟩=some (.slice none 0 0):=zf ob rfl;refine bodyPost_ret (v:=.tuple #[.agg #[.slice none 0 0,.slice none 0 0],.int .i64 k]) (by simp [results,Tryz.results38,go_sem,z0,z1]) rfl ?_;exact ⟨KB.out.next kW (fun k hk e=>by omega),_,_,rfl,Xs _ _,zbl _ _ _ _⟩
 have ME1:=ze (fun (hc:yF R.length (zk P) (yh R (zk P) b s x u))=>show q=(0,zgE R.length (zk P) (yh R (zk P) b s x u)) from by rw [<- hq];unfold xl;rw [hacc];simp only;rw [if_pos htp,if_pos hc]);have ME2:=ze (fun (hc:¬ yF R.length (zk P) (yh R (zk P) b s x u))=>show q=(2,⟨[],[]⟩) from by rw [<- hq];unfold xl;rw [hacc];simp only;rw [if_pos htp,if_neg hc]);have WF:=ze (zfc INV.out (by rw [zQ];exact HA.out.few) hF x u);have PA:=ze (zgX ASK.out F47.out u htp);have EW:=ze (show yh R (zk P) b s x u=⟨zai (zk P) R b s.order s.order.length,xT s.rules x u b⟩ from rfl);generalize yh R (zk P) b s x u=wh at *;have PS:=ze (Ys s.rules x u b).1;generalize xT s.rules x u b=L at *;obtain ⟨IT,hIT⟩:∃ IT:Nat->List zP,IT=zai (zk P) R b s.order:=⟨_,rfl⟩;have IT0:=ze (show IT 0=[] from by rw [hIT];rfl)
 have ITS:=ze (fun (k i:Nat) c (hi:s.order[k]? = some i) (hc:(zk P)[i]? = some c)=>show IT (k+1)=IT k++[⟨(i:Int),Xp (R++zY (zk P) (s.order.take k)) b c⟩] from by
  rw [hIT,zer,zdF hi hc])
 obtain ⟨AH,hAH⟩:∃ AH:Nat->Nat,AH=fun k=>R.length+(zY (zk P) (s.order.take k)).length:=⟨_,rfl⟩;have AH0:=ze (show AH 0=R.length from by rw [hAH];simp [zY])
 have AHS:=ze (fun (k i:Nat) c (hi:s.order[k]? = some i) (hc:(zk P)[i]? = some c)=>show AH (k+1)=AH k+c.fr.length from by
  rw [hAH];simp only;rw [zri,hi,Option.toList_some,XF hc,zq3];unfold yr;rw [zq4];omega)
 have AHT:=ze (fun k=>show s.rules.take (AH k)=R++zY (zk P) (s.order.take k)∧AH k<=s.rules.length from by rw [hAH];exact zd8 INV.out k);have JUST:=ze (fun (k i:Nat) c (hi:s.order[k]? = some i) (hc:(zk P)[i]? = some c)=>zeH (INV.out.just k i c hi hc));have ITL:=ze (fun k=>show (IT k).length=k from by rw [hIT];unfold zai;simp);rw [<- hIT] at EW;clear hIT hAH hacc ASK htp hq;have PCL:=zQ P;have OLT:=ze (fun i (hi:i∈s.order)=>show i < P.length from by have:=INV.out.lt i hi;omega);have CTO:=ze (fun (i:Nat) q (hq:P[i]? = some q)=>Zy hq);have OLN:=ze (show s.order.length<=P.length from by have:=yS INV.out.nd INV.out.lt;omega);have PFW:=HA.out.few;clear PCL INV;have hs23:(w2.alloc (.cells #[.slice oa s.order.length oc,.slice va s.rules.length vc] 52)).heap.size=w2.heap.size+1:=zq8 _ _;have HS3:=ze hs23;clear hs23;go_wp2_with fail;clear q0 q1;generalize w2.alloc (.cells #[.slice oa s.order.length oc,.slice va s.rules.length vc] 52)=w3 at *;generalize w2.heap.size=bR at *;(with_reducible refine PA.out.mono ?_);rintro e w4 ⟨vp,rfl,hst,k4⟩;obtain ⟨sa,sc,rfl⟩:=zl hst;have ka:=zi (fun _=>False) w4 (.cells #[.slice none 0 0,.slice sa L.length sc] 83)
 have KP0:=ze (show XR (w4.alloc (.cells #[.slice none 0 0,.slice sa L.length sc] 83)) (w4.alloc (.cells #[.slice none 0 0,.slice sa L.length sc] 83)) w4.heap.size (.slice none 0 0) (.slice sa L.length sc) [] (fun _=>False) from
  ⟨zh _ _,⟨rfl,.inl ⟨rfl,rfl⟩⟩,fun x hx=>(by cases hx),fun _ e=>e.elim⟩)
 have M4:=ze (show zm7 w4 w.heap.size bR w1.heap.size oa va oc vc s (.slice sa L.length sc) w3.heap.size L from
  ⟨k4.obj (fun e=>e) O13.out,k4.obj (fun e=>e) OR3.out,zn OO3.out k4 (fun _ _ e=>e),zn RR3.out k4 (fun _ _ e=>e),hst⟩)
 have KM:=ze (K3.out.trans (k4.trans ka));have KA:=ze ka
 have MM:=ze (fun W (kW:Chg (fun j=>j=w4.heap.size) (w4.alloc (.cells #[.slice none 0 0,.slice sa L.length sc] 83)) W)=>
  show zm7 W w.heap.size bR w1.heap.size oa va oc vc s (.slice sa L.length sc) w3.heap.size L from M4.out.chg ((KA.out.mono (fun _ _ e=>e.elim)).trans kW) (fun i e=>by omega))
 have HZ:=ze (show w.heap.size < w4.heap.size∧w1.heap.size<=w4.heap.size∧w3.heap.size<=w4.heap.size∧w4.heap.size < (w4.alloc (.cells #[.slice none 0 0,.slice sa L.length sc] 83)).heap.size from
  ⟨zr M4.out.out,Nat.le_trans HS13.out k4.size,k4.size,by rw [zq8];omega⟩)
 have q0:=zf (o:=0) (MM.out _ (Chg.refl _ _)).res rfl;clear hst k4 ka M4 KA O13 OR3 OO3 RR3 PA K3 HS3 HS13;go_wp2_with fail;clear q0;generalize w4.alloc (.cells #[.slice none 0 0,.slice sa L.length sc] 83)=wM at *;generalize w4.heap.size=br at *;go_loopw [17,18] (fun av iv wr=>∃ (k:Nat) (ivv:Value) (xs:List (zP × Value)) (Gx:Nat->Prop),k<=s.order.length∧av=.int .i64 (AH k:Int)∧iv=.int .i64 k∧Hid (XR wM wr br ivv (.slice sa L.length sc) xs Gx∧Chg (fun j=>j=br) wM wr∧xs.map Prod.fst=IT k)) (fun _ iv _=>s.order.length - (intOf iv).toNat)
 case atStart=>exact ⟨0,_,[],_,by omega,by rw [AH0.out],rfl,ze ⟨KP0.out,Chg.refl _ _,by rw [IT0.out];rfl⟩⟩
 case round=>
  obtain ⟨k,ivv,xs,Gx,hk,rfl,rfl,HI⟩:=hrel;have KP:=ze HI.out.1;have KC:=ze HI.out.2.1;have XM:=ze HI.out.2.2;clear HI;by_cases hlt:k < s.order.length
  ·as_aux_lemma=>
   obtain ⟨i,hi⟩:∃ i,s.order[k]? = some i:=⟨_,zq0 hlt⟩;have hil:=OLT.out i (zq2 hi);obtain ⟨pq,hpq⟩:∃ pq,P[i]? = some pq:=⟨_,zq0 hil⟩;have hci:=CTO.out i pq hpq;have JU:=ze (JUST.out k i _ hi hci);have ITN:=ze (ITS.out k i _ hi hci);have AHN:=AHS.out k i _ hi hci;obtain ⟨aht1,aht2⟩:=AHT.out k;have AHL:=(AHT.out (k+1)).2;have FL:=FEW.out.1;have HFI:=hF _ (zq2 hci);rw [<- aht1] at JU ITN;have M0:=ze (MM.out wr KC.out);obtain ⟨_,_,e1,_,hoc⟩:=zch M0.out.ord;cases e1;obtain ⟨go,rfl,_,oc0⟩:=hoc k i hi;have KW:=ze (KM.out.next KC.out (fun j hj e=>by have:=HZ.out.1;omega));obtain ⟨_,_,e1,_,hcv⟩:=HA.out.certs;cases e1;obtain ⟨cg,co,ca,ccp,rfl,hcg,ecv,cw0,cw1,cw2,cw3,cw4,cw5,cw6,hca⟩:=hcv i pq hpq;have CA:=ze hca;obtain ⟨⟨ck,sg,sp,fr,cf,ct,cn⟩,cv⟩:=pq;simp only at cw1 cw3 CA JU ITN AHN HFI;have hk8:=zq7 hlt OLN.out;have LOW:=ze HA.out.low;have g1:decide ((k:Int) < (s.order.length:Int))=true:=zqY (by omega);have g1':decide (k < s.order.length)=true:=zqY hlt;have hkn:(k:Int) < (s.order.length:Int):=by omega
   have hip:(i:Int) < (P.length:Int):=by omega
   have m0:=zj KW.out (fun e=>e) cw0;have m1:=zj KW.out (fun e=>e) cw1;have m2:=zj KW.out (fun e=>e) cw2;have m3:=zj KW.out (fun e=>e) cw3;have m4:=zj KW.out (fun e=>e) cw4;have m5:=zj KW.out (fun e=>e) cw5;have m6:=zj KW.out (fun e=>e) cw6;have b0:=zf (o:=0) M0.out.res rfl;have hoc2:s.order.length<=oc:=zek M0.out.ord;have kq:=zi (fun _=>False) wr (.cells #[.int .i64 ck,.int .u16 (sg:Int),.string sp,.slice ca fr.length ccp,.int .i64 cf,.int .i64 ct,.int .i64 cn] 64);have OCQ:=ze (zh wr (.cells #[.int .i64 ck,.int .u16 (sg:Int),.string sp,.slice ca fr.length ccp,.int .i64 cf,.int .i64 ct,.int .i64 cn] 64));have KPQ:=ze (KP.out.chg kq);have KCQ:=ze (KC.out.trans (kq.mono (fun _ _ e=>e.elim)));have oc1:=zj kq (fun e=>e) oc0;have b1:=zj kq (fun e=>e) b0;clear hcv hca ecv cw0 cw1 cw2 cw4 cw5 cw6 hoc hci hpq hi aht1 JUST ITS AHS AHT KP0 kq;go_upto_region 13 with fail;clear oc0 b0 m0 m1 m2 m3 m4 m5 m6 KP KC KW;generalize wr.alloc (.cells #[.int .i64 ck,.int .u16 (sg:Int),.string sp,.slice ca fr.length ccp,.int .i64 cf,.int .i64 ct,.int .i64 cn] 64)=wq at *;generalize wr.heap.size=bq at *;have KW:=ze (KM.out.next KCQ.out (fun j hj e=>by have:=HZ.out.1;omega));have ky:=zi (fun _=>False) wq (.cells #[.int .i64 (i:Int),.slice none 0 0] 98)
   have PIY:=ze (show xR wq (wq.alloc (.cells #[.int .i64 (i:Int),.slice none 0 0] 98)) wq.heap.size (i:Int) (.slice none 0 0) [] (fun _=>False) from
    ⟨zh _ _,⟨rfl,.inl ⟨rfl,rfl⟩⟩,fun z hz=>(by cases hz),fun _ e=>e.elim,ky,zrj _⟩)
   clear ky;go_wp2_with fail;clear oc1 b1;generalize wq.alloc (.cells #[.int .i64 (i:Int),.slice none 0 0] 98)=wy at *;go_wp2_with fail;have KP:=KPQ;have KC:=KCQ;clear KPQ KCQ;obtain ⟨wo,hwo⟩:∃ wo,wo=wq:=⟨_,rfl⟩;subst hwo;obtain ⟨PQ,hPQ⟩:∃ PQ:List zE,PQ=Xp (s.rules.take (AH k)) b ⟨ck,sg,sp,fr,cf,ct,cn⟩:=⟨_,rfl⟩;have PQL:=ze (show PQ.length=fr.length from by rw [hPQ];unfold Xp;rw [zq4])
   have PQT:=ze (fun (j:Nat) f (hf:fr[j]? = some f)=>show PQ.take (j+1)=PQ.take j++[xT (s.rules.take (AH k)) f (ZW sg) b] from by
    rw [hPQ];unfold Xp;rw [zri,zrb,hf];rfl)
   have JUF:=ze (fun (j:Nat) f (hf:fr[j]? = some f)=>JU.out f (zq2 hf));have ITP:=ze (show IT (k+1)=IT k++[⟨(i:Int),PQ⟩] from by rw [hPQ];exact ITN.out);clear hPQ JU ITN;obtain ⟨_,_,e1,hfl0,hfc⟩:=CA.out.set.at_;cases e1;have HFC:=ze hfc;clear hfc;go_loopw [21] (fun jv wr=>∃ (j:Nat) (pv:Value) (zs:List (zE × Value)) (Gz:Nat->Prop),j<=fr.length∧jv=.int .i64 j∧Hid (xR wo wr wo.heap.size (i:Int) pv zs Gz∧zs.map Prod.fst=PQ.take j)) (fun jv _=>fr.length - (intOf jv).toNat)
   case atStart=>exact ⟨0,_,[],_,by omega,rfl,ze ⟨PIY.out,rfl⟩⟩
   case round=>
    obtain ⟨j,pv,zs,Gz,hj,rfl,HJ⟩:=hrel;obtain ⟨za,zc,ezv⟩:=zl HJ.out.1.row;subst ezv;have PI:=ze HJ.out.1;have ZM:=ze HJ.out.2
    have hzl:zs.length<=1000:=by
     have:=congrArg List.length ZM.out;rw [zq4,zq5] at this;omega
    have CK:=ze (KC.out.trans (PI.out.ch.mono (fun _ _ e=>e.elim)));clear HJ PIY;by_cases hjl:j < fr.length
    ·as_aux_lemma=>
     obtain ⟨f,hf⟩:∃ f,fr[j]? = some f:=⟨_,zq0 hjl⟩;have g2:decide ((j:Int) < (fr.length:Int))=true:=zqY (by omega);have g2':decide (j < fr.length)=true:=zqY hjl;have hjn:(j:Int) < (fr.length:Int):=by omega
     obtain ⟨fb,fo,rfl,_,f0',hfs⟩:=HFC.out j f hf;have KWJ:=ze (KW.out.trans PI.out.ch);have PQN:=ze (PQT.out j f hf);have OCJ:=ze (PI.out.ch.obj (fun e=>e) OCQ.out);have M1:=ze (MM.out wr CK.out);have hvc:s.rules.length<=vc:=zek M1.out.rul;have SZA:=ze (show ∀ r∈s.rules,r.1.size<=maxLen∧r.2.size<=maxLen from SZ.out)
     have SJ:=ze (fun (W:World) (kW:Chg (fun _=>False) wr W)=>show W.cell? ⟨bR,1,none⟩=some (.slice va s.rules.length vc)∧W.cell? ⟨bq,3,none⟩=some (.slice (some ⟨fb,fo,none⟩) fr.length ccp)∧W.cell? ⟨bq,1,none⟩=some (.int .u16 (sg:Int))∧W.cell? ⟨fb,fo+j,none⟩=some (.string f) from
      ⟨zf (o:=1) (kW.obj (fun e=>e) M1.out.res) rfl,zf (o:=3) (kW.obj (fun e=>e) OCJ.out) rfl,zf (o:=1) (kW.obj (fun e=>e) OCJ.out) rfl,zj (KWJ.out.trans kW) (fun e=>e) f0'⟩)
     have F47K:=ze (show xt (s.rules.take (AH k)) from fun r hr=>F47.out r (List.mem_of_mem_take hr));have PA0:=ze (fun (W:World) (kW:Chg (fun _=>False) wr W)=>zgX (b:=b) (show zbA W (.slice va (AH k) vc) (s.rules.take (AH k)) f from ⟨zdd (ZT (zn M1.out.rul kW (fun _ _ e=>e)) SZA.out) aht2,.inl ⟨by rw [zq5];omega,fun r hr=>(FEW.out.2 r (List.mem_of_mem_take hr)).1⟩,hfs⟩) F47K.out (ZW sg) (JUF.out j f hf));have OFD:=ze (fun (W:World)=>zoH W sg CA.out.sg);have PN:=ze (Ys (s.rules.take (AH k)) f (ZW sg) b).1;generalize xT (s.rules.take (AH k)) f (ZW sg) b=l at *;generalize ZW sg=aw at *;have x1:AH k<=vc:=by omega
     have x2:(AH k:Int)<=(vc:Int):=by omega
     have hzz:wo.heap.size<=wr.heap.size:=PI.out.ch.size;obtain ⟨s0,s1,s2,s3⟩:=SJ.out wr (Chg.refl _ _);clear f0' hf hfs SZA PQT JUF HFC;go_wp2_with fail;clear s0 s1 s2 s3;refine zu (N:=122) [.rd [0,1,2,3,4,5,6,7,8,9,10,13],.ef 11,.ef 12,.ef 14,.rd [15,16,17,18,19]] (fun W=>W.cell? ⟨bR,1,none⟩=some (.slice va s.rules.length vc)∧W.cell? ⟨bq,3,none⟩=some (.slice (some ⟨fb,fo,none⟩) fr.length ccp)∧W.cell? ⟨bq,1,none⟩=some (.int .u16 (sg:Int))∧W.cell? ⟨fb,fo+j,none⟩=some (.string f)) (by kernel_rfl) (by kernel_rfl) (by kernel_rfl) (by kernel_rfl) (Nat.le_of_ble_eq_true rfl) (SJ.out _ (zw _ wr)) ?_;refine zB (A:=?A1) ?h1 ?h2
     case h1=>
      rintro w' ⟨z0,z1,z2,z3⟩ K hK;simp only [zM,zqT,zqU,zqV,zqW,zqX]
      repeat still_step
      refine wpStill_nil ?_;exact hK
     have KD:=ze (zw (fun _=>False) wr);generalize wr.drew=wd at *;refine zI rfl ?_;go_wp2_with fail;have ks:=zi (fun _=>False) wd (.cells #[.int .u16 (sg:Int)] 62);have KS:=ze (KD.out.trans ks);have OFW:=ze (OFD.out wd);refine ⟨SJ.out _ KS.out,?_⟩;clear ks;refine zI rfl ?_;go_wp2_with fail;generalize wd.alloc (.cells #[.int .u16 (sg:Int)] 62)=ws at *;(with_reducible refine OFW.out.mono ?_);rintro e wt ⟨rfl,kt⟩;have KT:=ze (KD.out.trans kt);have PA:=ze (PA0.out wt KT.out);clear kt OFW KS KD;go_wp2_with fail;refine ⟨SJ.out _ KT.out,?_⟩;refine zI rfl ?_;go_wp2_with fail;(with_reducible refine PA.out.mono ?_);rintro e wa ⟨vl,rfl,hoa,k8'⟩;have k8:=KT.out.trans k8';have hzt:wo.heap.size<=wt.heap.size:=Nat.le_trans hzz KT.out.size;go_wp2_with fail;refine ⟨SJ.out _ k8,?_⟩;refine zB (A:=?A2) ?h3 ?h4
     case h3=>
      rintro w' z0 K hK;clear z0;simp only [zM,zqT,zqU,zqV,zqW,zqX]
      repeat still_step
      refine wpStill_nil ?_;exact hK
     refine zR ?_;clear PA0 SJ OFD KT;obtain ⟨aa,ac,rfl⟩:=zl hoa;have PA2:=ze (PI.out.chg k8);have HOA:=ze (ZP hoa hzt);have y1:=zf (o:=1) PA2.out.box rfl;have kb:=zi (fun _=>False) wa (.cells #[.slice aa l.length ac] 81);have PB:=ze (PA2.out.chg kb);have HOB:=ze (zn HOA.out kb (fun _ _ e=>e));have hza:wo.heap.size<=wa.heap.size:=PA2.out.ch.size;clear PA k8 k8' hoa kb PI HOA;go_wp2_with (at_builtin;refine Zd rfl (.tmp 99) (.tmp 101) 96 rfl 81 1 24 Tryz.underlying96 Tryz.elemSteps wo.heap.size (.slice za zs.length zc) zs.length (zs.map Prod.snd) rfl PB.out.row wa.heap.size [.slice aa l.length ac] 81 (0,0) rfl (zh _ _) rfl ?p1 ?p2 ?p3 ?p4 ?pnx)
     case p1=>intro u hu;simp at hu;subst hu;rfl
     case p2=>omega
     case p3=>unfold maxLen;omega
     case p4=>first | omega | (rw [zq8];omega)
     intro v9 w9 o9 g9;obtain ⟨a9,c9,rfl⟩:=zl o9;have PP:=PB.out.push (l:=l) (v:=.slice aa l.length ac) HOB.out g9 o9;have bx9:=PP.2;have PNX:=ze PP.1;have y4:=zf (o:=1) bx9 rfl;have f4:=zm (o:=1) bx9;have ZN:=ze (show (zs++[(l,Value.slice aa l.length ac)]).map Prod.fst=PQ.take (j+1) from by rw [PQN.out,List.map_append,ZM.out];rfl);clear PP bx9 o9 g9 PB HOB y1;go_wp2;go_roundw
     case rel=>exact ⟨j+1,_,_,_,by omega,by go_num,ze ⟨PNX.out,ZN.out⟩⟩
     case measure=>simp [intOf];omega
    ·as_aux_lemma=>
     obtain rfl:j=fr.length:=by omega
     have g2:decide ((fr.length:Int) < (fr.length:Int))=false:=zqZ (by omega);have g2':decide (fr.length < fr.length)=false:=zqZ (by omega);have OCJ:=ze (PI.out.ch.obj (fun e=>e) OCQ.out);have c30:=zf (o:=3) OCJ.out rfl;obtain ⟨pd1,pd2⟩:=PI.out.done;rw [ZM.out,<- PQL.out,zrk] at pd1;have KPW:=ze (KP.out.chg PI.out.ch);obtain ⟨ia,ic,eiv⟩:=zl KPW.out.row;subst eiv
     have hxl:xs.length<=1000:=by
      have:=congrArg List.length XM.out;rw [zq4,ITL.out] at this;omega
     have ka:=zi (fun _=>False) wr (.cells #[.int .i64 (i:Int),.slice za zs.length zc] 98)
     have HPP:=ze (And.intro (pd1.chg ka (fun _ _ e=>e)) (fun k hk=>show wM.heap.size<=k∧∃ cs t,(wr.alloc (.cells #[.int .i64 (i:Int),.slice za zs.length zc] 98)).heap[k]? = some (.cells cs t (0,0))∧(t=81∨t=153) from by
      obtain ⟨h1,cs,t,q,ht⟩:=pd2 k hk;exact ⟨Nat.le_trans KC.out.size h1,cs,t,ka.obj (fun e=>e) q,ht⟩))
     have KPA:=ze (KPW.out.chg ka);have KCA:=ze (CK.out.trans (ka.mono (fun _ _ e=>e.elim)));have b0:=zf (o:=0) KPW.out.box rfl;have y0:=zf (o:=0) PI.out.box rfl;have y1:=zf (o:=1) PI.out.box rfl;have hwm:wM.heap.size<=wr.heap.size:=CK.out.size;clear pd1 pd2 ka KPW JUF PQT HFC;go_wp2_with (at_builtin;refine Zd rfl (.tmp 105) (.tmp 107) 80 rfl 98 2 32 Tryz.underlying80 Tryz.elemItem wM.heap.size (.slice ia xs.length ic) xs.length (Xv xs) rfl KPA.out.row _ [.int .i64 (i:Int),.slice za zs.length zc] 98 (0,0) rfl (zh _ _) rfl ?u1 ?u2 ?u3 ?u4 ?unx)
     case u1=>first | exact ⟨rfl,rfl⟩ | (intro u hu;simp at hu;rcases hu with rfl | rfl <;> rfl)
     case u2=>omega
     case u3=>unfold maxLen;omega
     case u4=>first | omega | (rw [zq8];omega)
     intro v5 w5 o5 g5;obtain ⟨a5,c5,rfl⟩:=zl o5;have KPP:=KPA.out.push (y:=⟨(i:Int),PQ⟩) HPP.out.1 HPP.out.2 g5 o5;have KPN:=ze KPP.1;have KP5:=ze KPP.2.2;have bx5:=KPP.2.1;have b5:=zf (o:=0) bx5 rfl;have f5:=zm (o:=0) bx5
     have KCN:=ze (KCA.out.next KPP.2.2 (fun i hi e=>by
      rcases e with e | e
      ·exact e
      ·have:=(KPA.out.row.lt i e).1;omega))
     have oca:=(zi (fun _=>False) wr (.cells #[.int .i64 (i:Int),.slice za zs.length zc] 98)).obj (fun e=>e) OCJ.out
     have c3:=zf (o:=3) (KP5.out.obj (fun e=>by
      rcases e with e | e
      ·exact zZ oca KPA.out.box (by decide) e
      ·obtain ⟨cs,q⟩:=zC KPA.out.row e
       exact zZ oca q (by decide) rfl) oca) rfl
     clear oca;have XN:=ze (show (xs++[((⟨(i:Int),PQ⟩:zP),Value.slice za zs.length zc)]).map Prod.fst=IT (k+1) from by rw [ITP.out,List.map_append,XM.out];rfl);have x3:IntKind.i64.wrap ((AH k:Int)+(fr.length:Int))=(AH (k+1):Int):=by rw [IntKind.wrap_i64] <;> omega
     have hil2:(i:Int) < (P.length:Int):=by omega
     clear KPP bx5 o5 g5 HPP KPA KCA b0 y0 y1 AHN c30;go_wp2;go_roundw
     case rel=>exact ⟨k+1,_,_,_,by omega,rfl,by go_num,ze ⟨KPN.out,KCN.out,XN.out⟩⟩
     case measure=>simp [intOf];omega
  ·as_aux_lemma=>
   obtain rfl:k=s.order.length:=by omega
   have g1:decide ((s.order.length:Int) < (s.order.length:Int))=false:=zqZ (by omega);have g1':decide (s.order.length < s.order.length)=false:=zqZ (by omega);have M0:=ze (MM.out wr KC.out);have KW:=ze (KM.out.next KC.out (fun j hj e=>by have:=HZ.out.1;omega));obtain ⟨ia,ic,eiv⟩:=zl KP.out.row;subst eiv;have b0:=zf (o:=0) KP.out.box rfl;have b1:=zf (o:=1) KP.out.box rfl;have WI:wh.items.length=xs.length:=by rw [EW.out,<- XM.out,zq4]
   have HP:=ze (show Zz wr (.slice ia xs.length ic) (.slice sa L.length sc) (· < wr.heap.size) wh from by
    have it:=zcj KP.out.row KP.out.ent;rw [XM.out] at it;rw [EW.out];refine ⟨it.up (fun k hk=>?_),(zaf M0.out.stp).up (fun k hk=>(M0.out.stp.lt k hk).2)⟩;rcases hk with hk | hk
    ·obtain ⟨_,cs,t,q,_⟩:=KP.out.typ k hk
     exact zr q
    ·exact (KP.out.row.lt k hk).2)
   have hR4:R.length<=400:=by have:=(AHT.out 0).2;rw [AH0.out] at this;exact Nat.le_trans this FEW.out.1
   have CU:=znE wr (R.length:Int) (.slice la P.length lcap) (.slice ia xs.length ic) (.slice sa L.length sc) P wh G (· < wr.heap.size) (HA.out.certs.chg KW.out (fun _ _ e=>e)) HP.out (fun _ e=>e) WF.out.1 WF.out.2.1 hF WF.out.2.2.1 WF.out.2.2.2 (by omega) (by omega);unfold zhN at CU;have CU:=ze CU;have O0:=ze M0.out.out;have rb0:=zf (o:=0) M0.out.res rfl;go_wp2_with fail;clear b0 b1 rb0;(with_reducible refine CU.out.mono ?_);rintro e wc ⟨kc,hres⟩;have OC:=ze (kc.obj (fun e=>e) O0.out);have hbl:w.heap.size < wr.heap.size:=zr O0.out;have d0:=zf (o:=0) OC.out rfl;have e0:=zm (o:=0) OC.out;have d1:=zf (o:=1) OC.out rfl;have e1:=zm (o:=1) OC.out;have KWC:=ze (KW.out.trans kc);have hsc:=kc.size;rcases hres with ⟨hco,iv,sv,rfl,hit,hrow⟩ | ⟨hno,rfl⟩
   ·have E:=ME1.out hco
    subst E;obtain ⟨i1,i2,rfl⟩:=hit.shape;obtain ⟨j1,j2,rfl⟩:=zl hrow;generalize (zgE R.length (zk P) wh).items.length=n1 at *;generalize hn2:(zgE R.length (zk P) wh).steps.length=n2 at *;have HN:=ze hn2;clear hn2;have HIT:=ze hit;have HROW:=ze hrow;clear hit hrow hco CU O0 kc ME1 ME2;go_wp2;obtain ⟨W,hW⟩:∃ W,W=(wc.setCell ⟨w.heap.size,0,none⟩ (.slice i1 n1 i2)).setCell ⟨w.heap.size,1,none⟩ (.slice j1 n2 j2):=⟨_,rfl⟩;rw [<- hW];obtain ⟨ob,kW⟩:=zd6 OC.out _ _ W hW;clear hW;have z0:W.cell? ⟨w.heap.size,0,none⟩=some (.slice i1 n1 i2):=zf ob rfl;have z1:W.cell? ⟨w.heap.size,1,none⟩=some (.slice j1 n2 j2):=zf ob rfl;refine bodyPost_ret (v:=.tuple #[.agg #[.slice i1 n1 i2,.slice j1 n2 j2],.int .i64 0]) (by simp [results,Tryz.results38,go_sem,z0,z1]) rfl ?_;have hsW:=kW.size;have hr2:=zn HROW.out kW (fun k hk e=>by have:=(HROW.out.lt k hk).1;omega);exact ⟨KWC.out.next kW (fun k hk e=>by omega),_,_,rfl,(HIT.out.chg kW (fun k hk e=>by omega)).up (fun k hk=>⟨by omega,by omega⟩),by simp only;rw [HN.out];exact ZP hr2 (Nat.le_of_lt hbl)⟩
   ·have E:=ME2.out hno
    subst E;clear hno CU O0 kc ME1 ME2;go_wp2;obtain ⟨W,hW⟩:∃ W,W=(wc.setCell ⟨w.heap.size,0,none⟩ (.slice none 0 0)).setCell ⟨w.heap.size,1,none⟩ (.slice none 0 0):=⟨_,rfl⟩;rw [<- hW];obtain ⟨ob,kW⟩:=zd6 OC.out _ _ W hW;clear hW;have z0:W.cell? ⟨w.heap.size,0,none⟩=some (.slice none 0 0):=zf ob rfl;have z1:W.cell? ⟨w.heap.size,1,none⟩=some (.slice none 0 0):=zf ob rfl;refine bodyPost_ret (v:=.tuple #[.agg #[.slice none 0 0,.slice none 0 0],.int .i64 2]) (by simp [results,Tryz.results38,go_sem,z0,z1]) rfl ?_;exact ⟨KWC.out.next kW (fun k hk e=>by omega),_,_,rfl,Xs _ _,zbl _ _ _ _⟩
end Go.Proofs.YthdfplafihmejaaGreat
