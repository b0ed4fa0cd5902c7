/-
  Layer 23: NodeRoots, walked.
-/
import Derived.Test.YtcilaocknhphnaaGreatZrCCert1
import Derived.Test.YtcilaocknhphnaaGreatZrNWide
import Derived.Test.YtcilaocknhphnaaGreatZrNArg
import Derived.Test.YtcilaocknhphnaaGreatZrNOut
namespace Go.Proofs.YtcilaocknhphnaaGreat
open Go.RowKit Go.Maps
attribute [local irreducible] XU ze5 Ev.fcall Ev.comp Ev.argsT

theorem Chg.past {S:Nat->Prop} {w a b:World} (h:Chg (fun k=>w.heap.size<=k) w a) (k:Chg S a b) (hs:∀ i,S i->w.heap.size<=i):Chg (fun k=>w.heap.size<=k) w b:=h.trans (k.mono fun _ _=>hs _)
theorem Chg.none {w a:World} (h:Chg (fun k=>w.heap.size<=k) w a):Chg (fun _=>False) w a:=h.mono fun k hk e=>by omega
theorem zee {r:Ev.V2} {v:Ev.AV} {h:Ev.H} (E:r=.one v h):r.all (fun v' h'=>v'=v∧h'=h):=by subst E;exact ⟨rfl,rfl⟩
theorem zeu {v:Ev.AV} (h:zb7 v=true):∃ b o c q,v=.sl b o 3 c q:=by
  unfold zb7 at h;split at h
  · rename_i b o n c q
    have:=Nat.eq_of_beq_eq_true h;subst this;exact ⟨_,_,_,_,rfl⟩
  · cases h
set_option maxHeartbeats 1000000 in
set_option maxRecDepth 100000 in
theorem zdz (w:World) (r:xK) (oa:Option Addr) (oc:Nat) (G:Nat->Prop) (i:Int) (h:zN w (.slice oa r.objs.length oc) G r.objs) (hG:∀ k,G k->k < w.heap.size):
    Calls Tryz.prog 4 #[.agg #[.int .i64 r.boot,.slice oa r.objs.length oc],.int .i64 i] w fun e w'=>e=.returned (.bool true)∧Chg (fun _=>False) w w':=by
  have ka:=zj (fun _=>False) w (.cells #[.int .i64 r.boot,.slice oa r.objs.length oc] 40);have OA:=zf (zh w (.cells #[.int .i64 r.boot,.slice oa r.objs.length oc] 40));have sa:w.heap.size < (w.alloc (.cells #[.int .i64 r.boot,.slice oa r.objs.length oc] 40)).heap.size:=by rw [zg0];omega
  have H1:=zf (h.chg ka (fun _ _ e=>e));have HG:=zf hG;have C1:=zf ((Chg.refl (fun k=>w.heap.size<=k) w).past ka (fun _ e=>e.elim));clear ka h hG;go_enter Tryz.func4,Tryz.ntmps4;go_wp2_with fail;generalize hw1:w.alloc (.cells #[.int .i64 r.boot,.slice oa r.objs.length oc] 40)=w1 at *;clear hw1;refine (zfL w1).mono ?_;rintro e w2 ⟨rfl,k2⟩;have k2:=zdg k2;have OB2:=k2.obj (fun e=>e) OA.out;have H2:=zf (H1.out.chg k2 (fun _ _ e=>e));have c0:=zg (o:=0) OB2 rfl;have c1:=zg (o:=1) OB2 rfl;have s2:w1.heap.size<=w2.heap.size:=k2.size;have O2:=zf OB2;have C2:=zf (C1.out.past k2 (fun _ e=>e.elim));clear k2 OA H1 OB2;go_wp2_with fail;refine (zcK w2 r oa oc G H2.out).mono ?_;rintro e w3 ⟨bw,rfl,k3,fit⟩;have c03:=zi k3 (fun e=>e) c0;have c13:=zi k3 (fun e=>e) c1;have O3:=zf (k3.obj (fun e=>e) O2.out);have H3:=zf (H2.out.chg k3 (fun _ _ e=>e));have s3:w2.heap.size<=w3.heap.size:=k3.size;have C3:=zf (C2.out.past k3 (fun _ e=>e.elim));clear k3 c0 c1 O2 H2;cases bw with
  | true=>
    go_wp2;go_ret;exact ⟨rfl,C3.out.none⟩
  | false=>
    have FIT:=zf (fit rfl);clear fit;go_wp2_with fail;refine (Ev.eval_ok ZX ZW (qs:=[239,280]) (n:=100) (args:=[]) (φ:=fun _=>none) (h:=Ev.H0) .nil (Ev.rel_H0 w3) (show (zcq Tryz.prog).all _ from zee zbY)).mono ?_;rintro e w4 ⟨v,h',ψ,cv,⟨rfl,rfl⟩,rfl,ht,hr,hs⟩;obtain ⟨rb,ro,rc,rq,hv⟩:=zeu zeq;rw [hv] at ht;cases ht with
    | one ht=>cases ht with
      | val ht=>cases ht with
        | cell ht=>cases ht with
          | base ht=>cases ht with
            | @sl _ _ _ _ C off _ p e1 e2 e3 e4 e5 e6=>
              go_wp2_with fail;rename_i KK HKK;have O4:=zf ((zdg hs.ch).obj (fun ⟨_,_,_,e,_⟩=>by cases e) O3.out);have K34:=(zdg hs.ch).mono (T:=fun _=>False) (fun k _ ⟨_,_,_,e,_⟩=>by cases e);have H4:=zf (H3.out.chg K34 (fun _ _ e=>e));have s4:w3.heap.size<=w4.heap.size:=K34.size;have C4:=zf (C3.out.past K34 (fun _ e=>e.elim))
              have pn:∀ c q,ψ c=some q->w3.heap.size<=q.b:=fun c q e=>by
                rcases hs.dom c q e with e | ⟨_,e | ⟨_,_,_,e,_⟩⟩
                · cases e
                · exact e
                · cases e
              have R1:=hr.blind (p:=⟨w.heap.size,0,0⟩) (fun c q e=>by have:=pn c q e;show q.b≠w.heap.size;omega) (by show w.heap.size < _;omega);have q2:(ψ.add (hR Tryz.prog).n ⟨w.heap.size,0,0⟩) (hR Tryz.prog).n=some ⟨w.heap.size,0,0⟩:=Ev.Phi.add_at _ _ _
              have qv:Ev.RelT (ψ.add (hR Tryz.prog).n ⟨w.heap.size,0,0⟩) (vR Tryz.prog) (.slice (some ⟨p.b,off,none⟩) 3 C):=by
                rw [hv];exact (Ev.RelB.sl e1 e2 e3 e4 e5 e6).toT.ext (Ev.Phi.add_ext hr.fresh)
              refine zbQ (c':=(za7 Tryz.f4)) (by kernel_rfl) ?_;refine Ev.piece_ok ZX ZW (qs:=[239,280]) (n:=100) (N:=88) (Ev.tmRel_lit (l:=tlR Tryz.prog i) ?_) (Nat.le_of_ble_eq_true (by kernel_rfl)) rfl R1 (show (XF Tryz.prog Tryz.f4 i).all _ from zfq (zbX i)) ?_
              · unfold tlR
                repeat first
                  | exact .nil
                  | refine .cons (.one (.junk _)) ?_
                  | refine .cons qv ?_
                  | refine .cons (Ev.RelB.toT (.int _ _)) ?_
                  | refine .cons (Ev.RelB.toT (.ptr q2)) ?_
              rintro e tm' h' χ a' w5 ⟨rfl,rfl,rfl⟩ m1 msz mdf m2 m3;obtain ⟨tm,df⟩:=a';simp only at m1 msz mdf;subst mdf;obtain ⟨g,hg,ha⟩:=zgr tm msz;have t1:=m1 1;have t2:=m1 2;rw [zeG,hg] at t1;rw [zeF,hg] at t2
              have g1:g 1=.int .i64 i:=by
                generalize g 1=v at t1 ⊢;cases t1 with
                | one t=>cases t with
                  | val t=>cases t with
                    | cell t=>cases t with
                      | base t=>cases t;rfl
              have g2:g 2=.pointer (some ⟨w.heap.size,0,none⟩):=by
                generalize g 2=v at t2 ⊢;cases t2 with
                | one t=>cases t with
                  | val t=>cases t with
                    | cell t=>cases t with
                      | base t=>
                        cases t with
                        | ptr e=>
                          rw [m3.ext _ _ q2] at e;cases e;rfl
              rw [g1,g2] at ha;subst ha
              have K45:=(zdg m3.ch).mono (T:=fun k=>w3.heap.size<=k) (fun k _ ⟨c,q,_,e,hb,al⟩=>by
                subst hb;by_cases c1:c=(hR Tryz.prog).n
                · rw [Ev.H.add_blk,if_pos c1] at al;cases al
                · rw [Ev.Phi.add_of c1] at e;exact pn c q e)
              have O5:=zf (K45.obj (by show ¬ _<=_;omega) O4.out);have H5:=zf (H4.out.chg K45 (fun k hk e=>by have:=HG.out k hk;omega));have s5:w4.heap.size<=w5.heap.size:=K45.size;have C5:=zf (C4.out.past K45 (fun i (e:w3.heap.size<=i)=>by omega));clear m1 m2 m3 t1 t2 hg K45 K34 hs hr R1 qv q2 e1 e2 e3 e4 e5 e6 pn;have c05:=zg (o:=0) O5.out rfl;have c15:=zg (o:=1) O5.out rfl;clear c03 c13;have DV:Calls Tryz.prog 12 #[.int .i64 65] w5 _:=zcc w5 65 (by omega) (by omega);have DV:=zf DV;refine HKK _ w5 ?_;clear HKK;go_wp2_with fail;refine (DV.out).mono ?_;rintro e w6 ⟨B,rfl,hBn,d6,k6,l6⟩;have O6:=zf (k6.obj (fun e=>e) O5.out);have H6:=zf (H5.out.chg k6 (fun _ _ e=>e));have c06:=zg (o:=0) O6.out rfl;have c16:=zg (o:=1) O6.out rfl;have s6:w5.heap.size<=w6.heap.size:=k6.size;have D6:=zf d6;have L6:=zf l6;have HBn:=zf hBn;have C6:=zf (C5.out.past k6 (fun _ e=>e.elim));clear d6 l6 hBn k6 DV c05 c15 O5 H5;have FM:=zf (zdb w6 B r oa oc G D6.out HBn.out H6.out (fun o ho=>by have:=FIT.out.ents o ho;omega) (fun k hk=>by have:=HG.out k hk;omega));unfold DB.ptr at *;go_wp2_with fail;refine (FM.out).mono ?_;rintro e w7 ⟨c,rfl,k7,hc2,hc4⟩;have O7:=zf (k7.obj (fun e=>by have:=(L6.out _ e).1;omega) O6.out);have H7:=zf (H6.out.chg k7 (fun k hk e=>by have:=(L6.out _ e).1;have:=HG.out k hk;omega));have c07:=zg (o:=0) O7.out rfl;have c17:=zg (o:=1) O7.out rfl;have s7:w6.heap.size<=w7.heap.size:=k7.size;have HC2:=zf hc2;have HC4:=zf hc4;have C7:=zf (C6.out.past k7 (fun i e=>by have:=(L6.out i e).1;omega));clear k7 FM c06 c16 O6 H6 D6 hc2 hc4;have MY:=zf (zbW w7 r oa oc G H7.out (fun o ho=>by have:=FIT.out.ents o ho;omega) (fun o ho x hx s hs=>by have:=FIT.out.word o ho x hx s hs;omega));go_wp2_with fail;refine (MY.out).mono ?_;rintro e w8 ⟨rfl,k8⟩;have O8:=zf (k8.obj (fun e=>e) O7.out);have H8:=zf (H7.out.chg k8 (fun _ _ e=>e));have c08:=zg (o:=0) O8.out rfl;have c18:=zg (o:=1) O8.out rfl;have s8:w7.heap.size<=w8.heap.size:=k8.size;have C8:=zf (C7.out.past k8 (fun _ e=>e.elim));cases hrb:Yl r with
              | false=>
                have ec:=HC2.out (.inl hrb);subst ec;go_wp2;go_ret;exact ⟨rfl,C8.out.none⟩
              | true=>
                by_cases hb0:r.boot=0
                · have tn:decide (r.boot=0)=true:=by simpa using hb0
                  have tn1:(r.boot != 0)=false:=by simpa using hb0
                  have tn2:(r.boot == 0)=true:=by simpa using hb0
                  rcases HC4.out hrb hb0 with rfl | ⟨rfl,hs,d,d7,ca⟩
                  · go_wp2
                    go_ret;exact ⟨rfl,C8.out.none⟩
                  have D8:=zf (d7.chg k8 (fun _ _ e=>e));have HS:=zf hs;have CA:=zf ca;have HRB:=zf hrb;have HB0:=zf hb0;clear d7 hs ca HC2 HC4 k8 MY O7 H7 hrb hb0 c07 c17;go_wp2_with fail;refine (Ev.eval_ok ZX ZW (qs:=[239,280]) (n:=100) (args:=[]) (φ:=fun _=>none) (h:=Ev.H0) .nil (Ev.rel_H0 w8) (show (zfJ Tryz.prog).all _ from zee zdh)).mono ?_;rintro e w9 ⟨v,h',φ,cv,⟨rfl,rfl⟩,rfl,ht,hr,hs⟩;cases ht with
                  | one ht=>cases ht with
                    | val ht=>cases ht with
                      | cell ht=>cases ht with
                        | base ht=>cases ht with
                          | @ptr _ _ p0 hp0=>
                            have K89:=(zdg hs.ch).mono (T:=fun _=>False) (fun k _ ⟨_,_,_,e,_⟩=>by cases e);have O9:=zf (K89.obj (fun e=>e) O8.out);have H9:=zf (H8.out.chg K89 (fun _ _ e=>e));have D9:=zf (D8.out.chg K89 (fun _ _ e=>e));have s9:w8.heap.size<=w9.heap.size:=K89.size
                            have PN:=zf (show ∀ c q,φ c=some q->w8.heap.size<=q.b from fun c q e=>by
                              rcases hs.dom c q e with e | ⟨_,e | ⟨_,_,_,e,_⟩⟩
                              · cases e
                              · exact e
                              · cases e)
                            have HR:=zf hr;have HP0:=zf hp0;have c09:=zg (o:=0) O9.out rfl;have c19:=zg (o:=1) O9.out rfl;have C9:=zf (C8.out.past K89 (fun _ e=>e.elim));clear K89 hs hr hp0 O8 H8 D8 c08 c18;by_cases hi:i < 0∨2 < i
                            · have BA:=zf (zfd w9 i hi (.pointer (some ⟨B.b,0,none⟩)) (.pointer (some ⟨p0.b,p0.s,none⟩)) ⟨_,rfl⟩ ⟨_,rfl⟩)
                              go_wp2_with fail;refine (BA.out).mono ?_;rintro e w10 ⟨rfl,rfl⟩;by_cases h0:i < 0
                              · have u0:decide (i < 0)=true:=zgQ h0
                                go_wp2;go_ret;exact ⟨rfl,C9.out.none⟩
                              · have u0:decide (i < 0)=false:=zgR h0
                                have u1:decide (2 < i)=true:=zgQ (by omega);go_wp2;go_ret;exact ⟨rfl,C9.out.none⟩
                            · obtain ⟨n,rfl⟩:∃ n:Nat,i=(n:Int):=⟨i.toNat,by omega⟩
                              have hn:n < 3:=by omega
                              have BT:=zf (zfe w9 B d r n hn φ p0 HP0.out HR.out (fun c q e hBs=>by have:=PN.out c q e;have:=(L6.out _ hBs).2;omega) D9.out HBn.out CA.out HRB.out HB0.out HS.out);have u0:decide ((n:Int) < 0)=false:=zgR (by omega);have u1:decide (2 < (n:Int))=false:=zgR (by omega);clear hi;unfold DB.ptr at *;go_wp2_with fail;refine (BT.out).mono ?_;rintro e w10 ⟨b,q,na,nc,rfl,n9,n10,ho,k10⟩
                              have hnot:∀ k,k < w5.heap.size->¬ (B.S k∨∃ c p,φ c=some p∧p.b=k):=fun k hk e=>by
                                rcases e with e | ⟨c,p,e,rfl⟩
                                · have:=(L6.out k e).1;omega
                                · have:=PN.out c p e;omega
                              have O10:=zf (k10.obj (hnot _ (by omega)) O9.out);have H10:=zf (H9.out.chg k10 (fun k hk=>hnot k (by have:=HG.out k hk;omega)));have s10:w9.heap.size<=w10.heap.size:=k10.size;have c010:=zg (o:=0) O10.out rfl;have c110:=zg (o:=1) O10.out rfl;have kA:=zj (fun _=>False) w10 (.cells #[.int .i64 1,.slice oa r.objs.length oc] 40);have OA:=zh w10 (.cells #[.int .i64 1,.slice oa r.objs.length oc] 40);have sA:w10.heap.size < (w10.alloc (.cells #[.int .i64 1,.slice oa r.objs.length oc] 40)).heap.size:=by rw [zg0];omega
                              have kD:=(kA.drew:Chg (fun _=>False) w10 (w10.alloc (.cells #[.int .i64 1,.slice oa r.objs.length oc] 40)).drew);have OD:=(zA (fun _=>False) (w10.alloc (.cells #[.int .i64 1,.slice oa r.objs.length oc] 40))).obj (fun e=>e) OA;have HD:=zf (H10.out.chg kD (fun _ _ e=>e));have HN:=zf (ho.chg kD (fun _ _ e=>e));have a0:=zg (o:=0) OD rfl;have a1:=zg (o:=1) OD rfl;have n9':=zi kD (fun e=>e) n9;have n10':=zi kD (fun e=>e) n10;have sD:(w10.alloc (.cells #[.int .i64 1,.slice oa r.objs.length oc] 40)).heap.size=(w10.alloc (.cells #[.int .i64 1,.slice oa r.objs.length oc] 40)).drew.heap.size:=rfl
                              have C10:=zf ((C9.out.past k10 (fun k e=>by
                                rcases e with e | ⟨c,p,e,rfl⟩
                                · have:=(L6.out k e).1;omega
                                · have:=PN.out c p e;omega)).past kD (fun _ e=>e.elim))
                              have HB0i:=HB0.out;clear k10 kA kD ho n9 n10 OA D9 O9 H9 HR BT c09 c19;go_wp2_with fail;generalize hwB:w10.alloc (.cells #[.int .i64 1,.slice oa r.objs.length oc] 40)=wB at *;clear hwB;refine zI (N:=88) [.rd [0,1,2,4],.ef 3,.ef 5,.rd [6]] (fun W=>W.cell? ⟨w10.heap.size,0,none⟩=some (.int .i64 1)∧W.cell? ⟨w10.heap.size,1,none⟩=some (.slice oa r.objs.length oc)) (by kernel_rfl) (by kernel_rfl) (by kernel_rfl) (by kernel_rfl) (Nat.le_of_ble_eq_true rfl) ⟨a0,a1⟩ ?_;refine zS (A:=?A1a) ?h1a ?h2a
                              case h1a=>
                                rintro w' ⟨y0,y1⟩ K hK;simp only [zJ,zgL,zgM,zgN,zgO,zgP];refine WS.out ?_
                                repeat (refine Zo (fun K hK=>?_);go_simp;refine hK _ ?_;clear hK K)
                                refine ZY ?_;exact hK
                              generalize wB.drew=wd at *;have RB:=Zv.1 HRB.out;have RC:=zf (zcT wd { r with boot:=1 } b (q+3) na nc (fun k=>w9.heap.size<=k∧k < w10.heap.size) n9' n10' HN.out (fun k hk=>by omega) (fun o ho=>yq (RB.2.2.2 o ho)) (by have:=RB.2.2.1;show r.objs.length<=6;omega));refine Zk rfl ?_;go_wp2_with fail;(with_reducible refine RC.out.mono ?_);rintro e wE ⟨v,rfl,⟨ov,rfl,hov⟩,kE⟩;obtain ⟨va,vc,rfl,_⟩:=hov.shape;have a0':=zi kE (fun e=>e) a0;have a1':=zi kE (fun e=>e) a1;have SM:=zf (zcP wE { r with boot:=1 } va oa vc oc _ G hov (HD.out.chg kE (fun _ _ e=>e)));go_wp2_with fail;refine ⟨⟨a0',a1'⟩,?_⟩;refine Zk rfl ?_;go_wp2_with fail;(with_reducible refine SM.out.mono ?_);rintro e wF ⟨rfl,kF⟩;have CF:=zf ((C10.out.past kE (fun _ e=>e.elim)).past kF (fun _ e=>e.elim));have a0f:=zi kF (fun e=>e) a0';have a1f:=zi kF (fun e=>e) a1';go_wp2_with fail;refine ⟨⟨a0f,a1f⟩,?_⟩;refine zS (A:=?A2a) ?h3a ?h4a
                              case h3a=>
                                rintro w' ⟨y0,y1⟩ K hK;simp only [zJ,zgL,zgM,zgN,zgO,zgP];refine WS.out ?_
                                repeat (refine Zo (fun K hK=>?_);go_simp;refine hK _ ?_;clear hK K)
                                refine ZY ?_;exact hK
                              refine ZT ?_;go_wp2;go_ret;exact ⟨rfl,CF.out.none⟩
                · have ec:=HC2.out (.inr hb0)
                  subst ec;have tn:decide (r.boot=0)=false:=by simpa using hb0
                  have tn1:(r.boot != 0)=true:=by simpa using hb0
                  have tn2:(r.boot == 0)=false:=by simpa using hb0
                  go_wp2;go_ret;exact ⟨rfl,C8.out.none⟩
theorem zcR (w:World) (v:Value) (i:Int) (r:xK) (h:zbH w v r):Calls Tryz.prog 4 #[v,.int .i64 i] w fun e w'=>e=.returned (.bool true)∧Chg (fun _=>False) w w':=by
  obtain ⟨oa,oc,rfl,h⟩:=h;exact zdz w r oa oc _ i h (fun _ hk=>hk)
end Go.Proofs.YtcilaocknhphnaaGreat
