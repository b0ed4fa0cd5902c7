/-
  Package decide: decide, Decide. Package decide: reaches, add.
-/
import Derived.Test.YthdfplafihmejaaGreatZtVShort
import Derived.Test.YthdfplafihmejaaGreatZtURun
import Derived.Test.YthdfplafihmejaaGreatZtVPlain
namespace Go.Proofs.YthdfplafihmejaaGreat
open Go.RowKit Go.Maps
theorem zoy {w:World} {b:Nat} {t:TypeId} {x0 x1 x2 x3:Value} (h:w.heap[b]? = some (.cells #[x0,x1,x2,x3] t (0,0))) (v0 v1 v2 v3:Value) (W:World) (hW:W=((((w.setCell ⟨b,0,none⟩ v0).setCell ⟨b,1,none⟩ v1).setCell ⟨b,2,none⟩ v2).setCell ⟨b,3,none⟩ v3)):
  W.heap[b]? = some (.cells #[v0,v1,v2,v3] t (0,0))∧Chg (·=b) w W:=by
 subst hW;have h0:=zt (o:=0) h v0;have h1:=zt (o:=1) h0 v1;have h2:=zt (o:=2) h1 v2;have h3:=zt (o:=3) h2 v3;exact ⟨h3,((((Chg.refl (fun k=>k=b) w).setCell (p:=⟨b,0,none⟩) (fun _=>rfl) _).setCell (p:=⟨b,1,none⟩) (fun _=>rfl) _).setCell (p:=⟨b,2,none⟩) (fun _=>rfl) _).setCell (p:=⟨b,3,none⟩) (fun _=>rfl) _⟩
def zoV (w:World) (q:Int × zgA) (e:Ending) (w':World):Prop:=Chg (fun _=>False) w w' ∧
 ∃ va vc,e=.returned (.tuple #[.agg #[.int .i64 q.2.ans,.int .i64 q.2.entry,.bool q.2.short,.slice va q.2.rules.length vc],.int .i64 q.1])∧w'.ownsRow w.heap.size 66 2 (.slice va q.2.rules.length vc) q.2.rules.length (zD q.2.rules)
theorem Yu {w w':World} {k a n:Int} {s:Bool} (hc:Chg (fun _=>False) w w'):zoV w (k,⟨a,n,s,[]⟩) (.returned (.tuple #[.agg #[.int .i64 a,.int .i64 n,.bool s,.slice none 0 0],.int .i64 k])) w':=
 ⟨hc,none,0,rfl,World.ownsRow_nil _ _ _ _⟩
theorem zma {C:List zq} {k:Nat} {x:zq} (h:C[k]? = some x):ZB (C.take (k+1))=ZB (C.take k)+x.fr.length:=by
 unfold ZB;rw [zri,h];simp
theorem zpN (op b:Int):zlb op b=(opB op && (decide (1<=b) && decide (b<=5000))):=rfl
theorem zmK {R:List zF} {C:List zq} {L:List Za} {op:Int} {c:List ByteArray} {b:Int} (h:Ye C L c=false):yG R C L op c b=(2,zhe):=by unfold yG;rw [if_neg (by rw [h];decide)]
theorem zol {R:List zF} {C:List zq} {L:List Za} {op:Int} {c:List ByteArray} {b:Int} (h:Ye C L c=true) (h2:zlb op b=false):yG R C L op c b=(1,zhe):=by unfold yG;rw [if_pos h,if_neg (by rw [h2];decide)]
theorem zmJ {R:List zF} {C:List zq} {L:List Za} {op:Int} {c:List ByteArray} {b:Int} (h:Ye C L c=true) (h2:zlb op b=true) (h3:400 < R.length+ZB C):yG R C L op c b=(3,zhe):=by unfold yG;rw [if_pos h,if_pos h2,if_pos h3]
theorem zk3 {R:List zF} {C:List zq} {L:List Za} {op:Int} {c:List ByteArray} {b:Int} (h:Ye C L c=true) (h2:zlb op b=true) (h3:¬ 400 < R.length+ZB C) (h4:ZX op c L < L.length):yG R C L op c b=(0,⟨1,(ZX op c L:Int),true,[]⟩):=by unfold yG;rw [if_pos h,if_pos h2,if_neg h3,if_pos h4]
theorem zok {R:List zF} {C:List zq} {L:List Za} {op:Int} {c:List ByteArray} {b:Int} (h:Ye C L c=true) (h2:zlb op b=true) (h3:¬ 400 < R.length+ZB C) (h4:¬ ZX op c L < L.length):yG R C L op c b=(0,zka R C L op c b):=by unfold yG;rw [if_pos h,if_pos h2,if_neg h3,if_neg h4]
set_option maxHeartbeats 8000000 in
set_option maxRecDepth 100000 in
theorem zfG (w:World) (ra:Option Addr) (R:List zF) (rc:Nat) (v lv cv:Value) (P:List (zq × Value)) (L:List Za) (op:Int) (c:List ByteArray) (b:Int) (G G2 G3:Nat->Prop) (hR:Yb w ra R rc v P G) (hl:ZI w lv G2 L) (hL:L.length<=1000) (hc:zx w cv G3 c):
  Calls Tryz.prog 60 #[.slice ra R.length rc,v,lv,.int .i64 op,cv,.int .i64 b] w (zoV w (yG R (zk P) L op c b)):=by
 have k0:=zi (fun _=>False) w (.cells #[.int .i64 0,.int .i64 0,.bool false,.slice none 0 0] 127);have O0:=ze (zh w (.cells #[.int .i64 0,.int .i64 0,.bool false,.slice none 0 0] 127));have LI:=ze (zjv _ v lv cv P L c G G2 G3 (hR.certs.chg k0 (fun _ _ e=>e)) (hl.chg k0 (fun _ _ e=>e)) (hc.chg k0 (fun _ _ e=>e)) hL);have K0:=ze k0;have HR:=ze hR;have SHO:=ze (fun W (k:Chg (fun _=>False) w W) (h:c.length<=1000)=>zlA W lv L op cv c G2 G3 (hl.chg k (fun _ _ e=>e)) (hc.chg k (fun _ _ e=>e)) h);have ASK:=ze (fun W (k:Chg (fun _=>False) w W) b0 ty Gl rv S (hla:Yk W b0 ty Gl L 0) (hS:zX W rv (· < W.heap.size) S) (hf:Few S) (h0:zcB S b c op=0)=>zqm W b0 ty L 0 rv cv S c op b Gl G3 hla hL hS hf (hc.chg k (fun _ _ e=>e)) h0);obtain ⟨_,_,rfl,_,_⟩:=hl.shape;obtain ⟨la,lcap,rfl,hpl,_⟩:=hR.certs;obtain ⟨_,_,rfl,_,_⟩:=hc;have hRl:=hR.many;have hPl:=hR.few;have CL:=ze (zQ P);have CG:=ze (fun k p (h:P[k]? = some p)=>Zy h);clear hR hl k0;go_enter Tryz.func60,Tryz.ntmps60;go_wp2_with fail;have hs01:w.heap.size < (w.alloc (.cells #[.int .i64 0,.int .i64 0,.bool false,.slice none 0 0] 127)).heap.size:=by rw [zq8];omega
 generalize w.alloc (.cells #[.int .i64 0,.int .i64 0,.bool false,.slice none 0 0] 127)=w1 at *;(with_reducible refine LI.out.mono ?_);rintro e w2 ⟨k2,hgood,hbad⟩;have K2:=ze (K0.out.trans k2);have O2:=ze (k2.obj (fun e=>e) O0.out);have d0:=zf (o:=0) O2.out rfl;have e0:=zm (o:=0) O2.out;have d1:=zf (o:=1) O2.out rfl;have e1:=zm (o:=1) O2.out;have d2:=zf (o:=2) O2.out rfl;have e2:=zm (o:=2) O2.out;have d3:=zf (o:=3) O2.out rfl;have e3:=zm (o:=3) O2.out;clear LI;cases hlb:Ye (zk P) L c with
 | false=>
  as_aux_lemma=>
  obtain rfl:=hbad hlb;have RD:=ze (zmK (R:=R) (op:=op) (b:=b) hlb);clear hgood hbad hlb k2;go_wp2;obtain ⟨W,hW⟩:∃ W,W=(((w2.setCell ⟨w.heap.size,0,none⟩ (.int .i64 0)).setCell ⟨w.heap.size,1,none⟩ (.int .i64 0)).setCell ⟨w.heap.size,2,none⟩ (.bool false)).setCell ⟨w.heap.size,3,none⟩ (.slice none 0 0):=⟨_,rfl⟩;rw [<- hW];obtain ⟨ob,kW⟩:=zoy O2.out _ _ _ _ W hW;clear hW;have z0:W.cell? ⟨w.heap.size,0,none⟩=some (.int .i64 0):=zf ob rfl;have z1:W.cell? ⟨w.heap.size,1,none⟩=some (.int .i64 0):=zf ob rfl;have z2:W.cell? ⟨w.heap.size,2,none⟩=some (.bool false):=zf ob rfl;have z3:W.cell? ⟨w.heap.size,3,none⟩=some (.slice none 0 0):=zf ob rfl;refine bodyPost_ret (v:=.tuple #[.agg #[.int .i64 0,.int .i64 0,.bool false,.slice none 0 0],.int .i64 2]) (by simp [results,Tryz.results60,go_sem,z0,z1,z2,z3]) rfl ?_;rw [RD.out];exact Yu (K2.out.next kW (fun k hk e=>by omega))
 | true=>
 obtain ⟨b0,rfl,hb0,hla⟩:=hgood hlb;have LB:=ze hlb;have hcl:c.length<=1000:=by have:=(xV (yj.1 hlb).1).2;omega
 have HB0:=ze (Nat.le_trans (Nat.le_of_lt hs01) hb0);have HLA:=ze hla;clear hbad hgood hlb hb0 hla k2;have OP:=ze (zoG w2 op);have SAR:=ze (zpN op b);by_cases har:zlb op b=true
 rotate_left
 · as_aux_lemma=>
   have RD:=ze (zol (R:=R) LB.out (show zlb op b=false from by simpa using har));have AR:=ze (show zlb op b=false from by simpa using har);clear har;have fin:∀ (o1 o2 o3:Bool),opB op=o1->decide (1<=b)=o2->decide (b<=5000)=o3->(o1 && (o2 && o3))=false->True:=fun _ _ _ _ _ _ _=>trivial;have OPX:=ze (show opB op=true∧decide (1<=b)=true∧decide (b<=5000)=true->False from fun ⟨q1,q2,q3⟩=>by have:=AR.out;rw [SAR.out,q1,q2,q3] at this;cases this);clear fin SAR AR;generalize opB op=o1 at *;cases o1 with
   | false=>
    clear OPX;go_wp2_with fail;(with_reducible refine OP.out.mono ?_);rintro e w3 ⟨rfl,rfl⟩;clear OP;go_wp2;obtain ⟨W,hW⟩:∃ W,W=(((w2.setCell ⟨w.heap.size,0,none⟩ (.int .i64 0)).setCell ⟨w.heap.size,1,none⟩ (.int .i64 0)).setCell ⟨w.heap.size,2,none⟩ (.bool false)).setCell ⟨w.heap.size,3,none⟩ (.slice none 0 0):=⟨_,rfl⟩;rw [<- hW];obtain ⟨ob,kW⟩:=zoy O2.out _ _ _ _ W hW;clear hW;have z0:W.cell? ⟨w.heap.size,0,none⟩=some (.int .i64 0):=zf ob rfl;have z1:W.cell? ⟨w.heap.size,1,none⟩=some (.int .i64 0):=zf ob rfl;have z2:W.cell? ⟨w.heap.size,2,none⟩=some (.bool false):=zf ob rfl;have z3:W.cell? ⟨w.heap.size,3,none⟩=some (.slice none 0 0):=zf ob rfl;refine bodyPost_ret (v:=.tuple #[.agg #[.int .i64 0,.int .i64 0,.bool false,.slice none 0 0],.int .i64 1]) (by simp [results,Tryz.results60,go_sem,z0,z1,z2,z3]) rfl ?_;rw [RD.out];exact Yu (K2.out.next kW (fun k hk e=>by omega))
   | true=>
   by_cases h1:1<=b
   · have h2:¬ b<=5000:=fun h2=>OPX.out ⟨rfl,zqY h1,zqY h2⟩
     have g1:decide (b < 1)=false:=zqZ (by omega);have g2:decide (5000 < b)=true:=zqY (by omega);clear OPX h1 h2;go_wp2_with fail;(with_reducible refine OP.out.mono ?_);rintro e w3 ⟨rfl,rfl⟩;clear OP;go_wp2;obtain ⟨W,hW⟩:∃ W,W=(((w2.setCell ⟨w.heap.size,0,none⟩ (.int .i64 0)).setCell ⟨w.heap.size,1,none⟩ (.int .i64 0)).setCell ⟨w.heap.size,2,none⟩ (.bool false)).setCell ⟨w.heap.size,3,none⟩ (.slice none 0 0):=⟨_,rfl⟩;rw [<- hW];obtain ⟨ob,kW⟩:=zoy O2.out _ _ _ _ W hW;clear hW;have z0:W.cell? ⟨w.heap.size,0,none⟩=some (.int .i64 0):=zf ob rfl;have z1:W.cell? ⟨w.heap.size,1,none⟩=some (.int .i64 0):=zf ob rfl;have z2:W.cell? ⟨w.heap.size,2,none⟩=some (.bool false):=zf ob rfl;have z3:W.cell? ⟨w.heap.size,3,none⟩=some (.slice none 0 0):=zf ob rfl;refine bodyPost_ret (v:=.tuple #[.agg #[.int .i64 0,.int .i64 0,.bool false,.slice none 0 0],.int .i64 1]) (by simp [results,Tryz.results60,go_sem,z0,z1,z2,z3]) rfl ?_;rw [RD.out];exact Yu (K2.out.next kW (fun k hk e=>by omega))
   · have g1:decide (b < 1)=true:=zqY (by omega)
     clear OPX h1;go_wp2_with fail;(with_reducible refine OP.out.mono ?_);rintro e w3 ⟨rfl,rfl⟩;clear OP;go_wp2;obtain ⟨W,hW⟩:∃ W,W=(((w2.setCell ⟨w.heap.size,0,none⟩ (.int .i64 0)).setCell ⟨w.heap.size,1,none⟩ (.int .i64 0)).setCell ⟨w.heap.size,2,none⟩ (.bool false)).setCell ⟨w.heap.size,3,none⟩ (.slice none 0 0):=⟨_,rfl⟩;rw [<- hW];obtain ⟨ob,kW⟩:=zoy O2.out _ _ _ _ W hW;clear hW;have z0:W.cell? ⟨w.heap.size,0,none⟩=some (.int .i64 0):=zf ob rfl;have z1:W.cell? ⟨w.heap.size,1,none⟩=some (.int .i64 0):=zf ob rfl;have z2:W.cell? ⟨w.heap.size,2,none⟩=some (.bool false):=zf ob rfl;have z3:W.cell? ⟨w.heap.size,3,none⟩=some (.slice none 0 0):=zf ob rfl;refine bodyPost_ret (v:=.tuple #[.agg #[.int .i64 0,.int .i64 0,.bool false,.slice none 0 0],.int .i64 1]) (by simp [results,Tryz.results60,go_sem,z0,z1,z2,z3]) rfl ?_;rw [RD.out];exact Yu (K2.out.next kW (fun k hk e=>by omega))
 have AR:=ze har;obtain ⟨hop,hb1,hb2⟩:=XP.1 har;have OPT:=ze (show opB op=true from by unfold opB;rw [zqY hop.1,zqY hop.2];rfl);rw [OPT.out] at OP;have g1:decide (b < 1)=false:=zqZ (by omega);have g2:decide (5000 < b)=false:=zqZ (by omega);have LNM:=ze (fun (k:Nat) x (hx:(zk P)[k]? = some x)=>show x.fr.length<=16 from (Xx (zrh.1 (yj.1 LB.out).2.2 x (zq2 hx))).2);clear har hop SAR;go_wp2_with fail;(with_reducible refine OP.out.mono ?_);rintro e w3 ⟨rfl,rfl⟩;clear OP OPT;go_wp2;go_loopw [16,51] (fun nv iv wr=>∃ k n:Nat,k<=P.length∧n<=R.length+16*k∧nv=.int .i64 n∧iv=.int .i64 k∧Hid (n=R.length+ZB ((zk P).take k)∧Chg (fun _=>False) w2 wr)) (fun _ iv _=>P.length - (intOf iv).toNat)
 case atStart=>exact ⟨0,R.length,by omega,by omega,rfl,rfl,ze ⟨by simp [ZB],Chg.refl _ _⟩⟩
 case round=>
  obtain ⟨k,n,hk,hn,rfl,rfl,HI⟩:=hrel;obtain ⟨hne,hkc⟩:=HI.out;have NE:=ze hne;have KC:=ze hkc;clear HI hne hkc;by_cases hlt:k < P.length
  · as_aux_lemma=>
    obtain ⟨⟨x,sv⟩,hp⟩:∃ p,P[k]? = some p:=⟨_,zq0 hlt⟩;obtain ⟨_,_,e1,_,hcl⟩:=HR.out.certs.chg (K2.out.trans KC.out) (fun _ _ e=>e);cases e1;obtain ⟨g,o,sa,sc,rfl,hgg,hsv,c0,c1,c2,c3,c4,c5,c6,hca⟩:=hcl k _ hp;simp only at hsv;subst hsv;have NS:=ze (zma (CG.out _ _ hp));have hfl:=LNM.out k x (CG.out _ _ hp);have ka:=zi (fun _=>False) wr (.cells #[.int .i64 x.kind,.int .u16 (x.sg:Int),.string x.sp,.slice sa x.fr.length sc,.int .i64 x.f,.int .i64 x.t,.int .i64 x.n] 64);clear hcl hp hgg hca d0 d1 d2 d3 e0 e1 e2 e3;simp only at c0 c1 c2 c3 c4 c5 c6 NS hfl;obtain ⟨kind,sg,sp,fr,f,t,num⟩:=x;simp only at c0 c1 c2 c3 c4 c5 c6 ka NS hfl;have KA:=ze (KC.out.trans ka);clear ka KC;have w1':IntKind.i64.wrap ((n:Int)+(fr.length:Int))=((n+fr.length:Nat):Int):=by rw [IntKind.wrap_i64];omega
    go_wp2;go_roundw
    case rel=>exact ⟨k+1,n+fr.length,by omega,by omega,by first | trivial | rfl | go_num,by first | trivial | go_num,ze ⟨by rw [NS.out,NE.out];omega,KA.out⟩⟩
    case measure=>simp [intOf];omega
  obtain rfl:k=P.length:=by omega
  have NN:=ze (show n=R.length+ZB (zk P) from by rw [NE.out,List.take_of_length_le (by rw [CL.out];exact zrj _)]);have K3:=ze (K2.out.trans KC.out);have O3:=ze (KC.out.obj (fun e=>e) O2.out);have HLA3:=ze (HLA.out.chg KC.out (fun e=>e) (fun _ _ e=>e));clear NE KC HLA O2 K2 d0 d1 d2 d3 e0 e1 e2 e3 hlt;have d0:=zf (o:=0) O3.out rfl;have e0:=zm (o:=0) O3.out;have d1:=zf (o:=1) O3.out rfl;have e1:=zm (o:=1) O3.out;have d2:=zf (o:=2) O3.out rfl;have e2:=zm (o:=2) O3.out;have d3:=zf (o:=3) O3.out rfl;have e3:=zm (o:=3) O3.out;by_cases h4:400 < n
  · as_aux_lemma=>
    have g4:decide (400 < (n:Int))=true:=zqY (by omega);have RD:=ze (zmJ LB.out AR.out (show 400 < R.length+ZB (zk P) from by rw [<- NN.out];exact h4));clear h4;go_wp2;obtain ⟨W,hW⟩:∃ W,W=(((wr.setCell ⟨w.heap.size,0,none⟩ (.int .i64 0)).setCell ⟨w.heap.size,1,none⟩ (.int .i64 0)).setCell ⟨w.heap.size,2,none⟩ (.bool false)).setCell ⟨w.heap.size,3,none⟩ (.slice none 0 0):=⟨_,rfl⟩;rw [<- hW];obtain ⟨ob,kW⟩:=zoy O3.out _ _ _ _ W hW;clear hW;have z0:W.cell? ⟨w.heap.size,0,none⟩=some (.int .i64 0):=zf ob rfl;have z1:W.cell? ⟨w.heap.size,1,none⟩=some (.int .i64 0):=zf ob rfl;have z2:W.cell? ⟨w.heap.size,2,none⟩=some (.bool false):=zf ob rfl;have z3:W.cell? ⟨w.heap.size,3,none⟩=some (.slice none 0 0):=zf ob rfl;refine bodyPost_ret (v:=.tuple #[.agg #[.int .i64 0,.int .i64 0,.bool false,.slice none 0 0],.int .i64 3]) (by simp [results,Tryz.results60,go_sem,z0,z1,z2,z3]) rfl ?_;rw [RD.out];exact Yu (K3.out.next kW (fun k hk e=>by omega))
  have g4:decide (400 < (n:Int))=false:=zqZ (by omega);have H4:=ze (show ¬ 400 < R.length+ZB (zk P) from by rw [<- NN.out];exact h4);have SH:=ze (SHO.out wr K3.out hcl);have DSH:=ze (zk3 (R:=R) (L:=L) LB.out AR.out H4.out);have DRU:=ze (zok (R:=R) (L:=L) LB.out AR.out H4.out);clear SHO h4;by_cases hsh:ZX op c L < L.length
  · as_aux_lemma=>
    have RD:=ze (DSH.out hsh);have SV:Xl op c L=(ZX op c L:Int):=by unfold Xl;rw [if_pos hsh]
    rw [SV,zqY hsh] at SH;clear DSH DRU hsh SV;generalize ZX op c L=si at *;go_wp2_with fail;clear d0 d1 d2 d3 e0 e1 e2 e3;(with_reducible refine SH.out.mono ?_);rintro e w4 ⟨rfl,k4⟩;have O4:=ze (k4.obj (fun e=>e) O3.out);have K4:=ze (K3.out.trans k4);have d0:=zf (o:=0) O4.out rfl;have e0:=zm (o:=0) O4.out;have d1:=zf (o:=1) O4.out rfl;have e1:=zm (o:=1) O4.out;have d2:=zf (o:=2) O4.out rfl;have e2:=zm (o:=2) O4.out;have d3:=zf (o:=3) O4.out rfl;have e3:=zm (o:=3) O4.out;clear SH k4;go_wp2;obtain ⟨W,hW⟩:∃ W,W=(((w4.setCell ⟨w.heap.size,0,none⟩ (.int .i64 1)).setCell ⟨w.heap.size,1,none⟩ (.int .i64 (si:Int))).setCell ⟨w.heap.size,2,none⟩ (.bool true)).setCell ⟨w.heap.size,3,none⟩ (.slice none 0 0):=⟨_,rfl⟩;rw [<- hW];obtain ⟨ob,kW⟩:=zoy O4.out _ _ _ _ W hW;clear hW;have z0:W.cell? ⟨w.heap.size,0,none⟩=some (.int .i64 1):=zf ob rfl;have z1:W.cell? ⟨w.heap.size,1,none⟩=some (.int .i64 (si:Int)):=zf ob rfl;have z2:W.cell? ⟨w.heap.size,2,none⟩=some (.bool true):=zf ob rfl;have z3:W.cell? ⟨w.heap.size,3,none⟩=some (.slice none 0 0):=zf ob rfl;refine bodyPost_ret (v:=.tuple #[.agg #[.int .i64 1,.int .i64 (si:Int),.bool true,.slice none 0 0],.int .i64 0]) (by simp [results,Tryz.results60,go_sem,z0,z1,z2,z3]) rfl ?_;rw [RD.out];exact Yu (K4.out.next kW (fun k hk e=>by omega))
  have DRR:=ze (DRU.out hsh);rw [zqZ hsh] at SH;clear DSH DRU hsh;generalize Xl op c L=sv at *;go_wp2_with fail;clear d0 d1 d2 d3 e0 e1 e2 e3;(with_reducible refine SH.out.mono ?_);rintro e w4 ⟨rfl,k4⟩;have O4:=ze (k4.obj (fun e=>e) O3.out);have K4:=ze (K3.out.trans k4);have HLA4:=ze (HLA3.out.chg k4 (fun e=>e) (fun _ _ e=>e));clear SH k4 O3 K3 HLA3;have RA4:=ze (HR.out.chg K4.out);cases hacc:Zc R (zk P) b with
  | error x=>
   as_aux_lemma=>
   have X12:x=12:=zhI hacc (zpe (yj.1 LB.out).2.2 (by have:=H4.out;omega) ⟨hb1,hb2⟩);have RUN:=ze (zlK RA4.out hacc);have RD:=ze (show zka R (zk P) L op c b=⟨2,0,false,[]⟩ from by unfold zka;rw [hacc]);subst X12;clear hacc;go_wp2_with fail;(with_reducible refine RUN.out.mono ?_);rintro e w5 ⟨_,rfl,k5⟩;have kb:=zi (fun _=>False) w5 (.cells #[.slice none 0 0,.slice none 0 0] 165);have O5:=ze (kb.obj (fun e=>e) (k5.obj (fun e=>e) O4.out));have K5:=ze (K4.out.trans (k5.trans kb));have d0:=zf (o:=0) O5.out rfl;have e0:=zm (o:=0) O5.out;have d1:=zf (o:=1) O5.out rfl;have e1:=zm (o:=1) O5.out;have d2:=zf (o:=2) O5.out rfl;have e2:=zm (o:=2) O5.out;have d3:=zf (o:=3) O5.out rfl;have e3:=zm (o:=3) O5.out;clear RUN k5 kb;go_wp2;obtain ⟨W,hW⟩:∃ W,W=((((w5.alloc (.cells #[.slice none 0 0,.slice none 0 0] 165)).setCell ⟨w.heap.size,0,none⟩ (.int .i64 2)).setCell ⟨w.heap.size,1,none⟩ (.int .i64 0)).setCell ⟨w.heap.size,2,none⟩ (.bool false)).setCell ⟨w.heap.size,3,none⟩ (.slice none 0 0):=⟨_,rfl⟩;rw [<- hW];obtain ⟨ob,kW⟩:=zoy O5.out _ _ _ _ W hW;clear hW;have z0:W.cell? ⟨w.heap.size,0,none⟩=some (.int .i64 2):=zf ob rfl;have z1:W.cell? ⟨w.heap.size,1,none⟩=some (.int .i64 0):=zf ob rfl;have z2:W.cell? ⟨w.heap.size,2,none⟩=some (.bool false):=zf ob rfl;have z3:W.cell? ⟨w.heap.size,3,none⟩=some (.slice none 0 0):=zf ob rfl;refine bodyPost_ret (v:=.tuple #[.agg #[.int .i64 2,.int .i64 0,.bool false,.slice none 0 0],.int .i64 0]) (by simp [results,Tryz.results60,go_sem,z0,z1,z2,z3]) rfl ?_;rw [DRR.out,RD.out];exact Yu (K5.out.next kW (fun k hk e=>by omega))
  | ok s=>
  have RUN:=ze (zoA RA4.out hacc);have RD:=ze (show zka R (zk P) L op c b=⟨(yE s.rules b c op 0 0 L).1,(yE s.rules b c op 0 0 L).2,false,s.rules⟩ from by unfold zka;rw [hacc])
  have RSZ:=ze (show ∀ r∈R,r.1.size<=400∧r.2.size<=maxLen from fun r hr=>⟨HR.out.size (by have:=H4.out;omega) r hr,by
   obtain ⟨_,_,_,_,q⟩:=HR.out.rules;obtain ⟨j,hj⟩:=List.mem_iff_getElem?.1 hr;obtain ⟨_,_,_,_,_,_,q2⟩:=q j r hj;exact q2.2⟩)
  have FEW:=ze (zhL.few hacc RSZ.out)
  have A0:=ze (show zcB s.rules b c op=0 from by
   have:=(XP.1 AR.out).1;unfold zcB zpK;rw [if_pos (yj.1 LB.out).1,if_neg (by omega),if_pos rfl,if_neg (by omega),if_neg (by have:=FEW.out.1;omega)])
  clear hacc RSZ HR;go_wp2_with fail;(with_reducible refine RUN.out.mono ?_);rintro e w5 ⟨oa,va,oc,vc,rfl,hoo,hor,k5⟩;have kb:=zi (fun _=>False) w5 (.cells #[.slice oa s.order.length oc,.slice va s.rules.length vc] 165);have K5:=ze (K4.out.trans (k5.trans kb));have O5:=ze (kb.obj (fun e=>e) (k5.obj (fun e=>e) O4.out));have OR5:=ze (zh w5 (.cells #[.slice oa s.order.length oc,.slice va s.rules.length vc] 165));have RR5:=ze (zn hor kb (fun _ _ e=>e));have SZ:=ze (show ∀ r∈s.rules,r.1.size<=maxLen∧r.2.size<=maxLen from fun r hr=>⟨by have:=(FEW.out.2 r hr).1;unfold maxLen;omega,(FEW.out.2 r hr).2⟩);have AS:=ze (ASK.out _ K5.out b0 _ _ _ s.rules ((HLA4.out.chg k5 (fun e=>e) (fun _ _ e=>e)).chg kb (fun e=>e) (fun _ _ e=>e)) (ZT RR5.out SZ.out) (.inl ⟨FEW.out.1,fun r hr=>(FEW.out.2 r hr).1⟩) A0.out);have q1:=zf (o:=1) OR5.out rfl;have HS5:=ze (show w.heap.size < w4.heap.size from zr O4.out);clear k5 kb hoo hor RUN O4 K4 HLA4 ASK SZ A0;generalize yE s.rules b c op 0 0 L=aa at *;go_wp2_with fail;generalize w5.alloc (.cells #[.slice oa s.order.length oc,.slice va s.rules.length vc] 165)=w6 at *;generalize w5.heap.size=gq at *;clear q1;(with_reducible refine AS.out.mono ?_);rintro e w7 ⟨rfl,k7⟩;have K7:=ze (K5.out.trans k7);have O7:=ze (k7.obj (fun e=>e) O5.out);have OR7:=ze (k7.obj (fun e=>e) OR5.out);have RR7:=ze (zn RR5.out k7 (fun _ _ e=>e));have d0:=zf (o:=0) O7.out rfl;have e0:=zm (o:=0) O7.out;have d1:=zf (o:=1) O7.out rfl;have e1:=zm (o:=1) O7.out;have d2:=zf (o:=2) O7.out rfl;have e2:=zm (o:=2) O7.out;have d3:=zf (o:=3) O7.out rfl;have e3:=zm (o:=3) O7.out;have q1:=zf (o:=1) OR7.out rfl;obtain ⟨a1,a2⟩:=aa;clear AS k7 K5 O5 OR5 RR5;go_wp2;obtain ⟨W,hW⟩:∃ W,W=(((w7.setCell ⟨w.heap.size,0,none⟩ (.int .i64 a1)).setCell ⟨w.heap.size,1,none⟩ (.int .i64 a2)).setCell ⟨w.heap.size,2,none⟩ (.bool false)).setCell ⟨w.heap.size,3,none⟩ (.slice va s.rules.length vc):=⟨_,rfl⟩;rw [<- hW];obtain ⟨ob,kW⟩:=zoy O7.out _ _ _ _ W hW;clear hW;have z0:W.cell? ⟨w.heap.size,0,none⟩=some (.int .i64 a1):=zf ob rfl;have z1:W.cell? ⟨w.heap.size,1,none⟩=some (.int .i64 a2):=zf ob rfl;have z2:W.cell? ⟨w.heap.size,2,none⟩=some (.bool false):=zf ob rfl;have z3:W.cell? ⟨w.heap.size,3,none⟩=some (.slice va s.rules.length vc):=zf ob rfl;refine bodyPost_ret (v:=.tuple #[.agg #[.int .i64 a1,.int .i64 a2,.bool false,.slice va s.rules.length vc],.int .i64 0]) (by simp [results,Tryz.results60,go_sem,z0,z1,z2,z3]) rfl ?_;rw [DRR.out,RD.out]
  exact ⟨K7.out.next kW (fun k hk e=>by omega),va,vc,rfl,ZP (zn RR7.out kW (fun k hk e=>by
   have h1:=(RR7.out.lt k hk).1;have h2:=HS5.out;omega)) (Nat.le_of_lt HS5.out)⟩
theorem zil (w:World) (d:zgA) (va:Option Addr) (vc:Nat) (x:ByteArray) (b:Int) (hx:x.size<=maxLen) (hr:d.short=false->zbA w (.slice va d.rules.length vc) d.rules x∧zH d.rules x b=0):
  Calls Tryz.prog 92 #[.agg #[.int .i64 d.ans,.int .i64 d.entry,.bool d.short,.slice va d.rules.length vc],.string x,.int .i64 b] w (ziX w 0 (zbx d b x)):=by
 obtain ⟨ans,en,short,rules⟩:=d;simp only at hr ⊢;have k0:=zi (fun _=>False) w (.cells #[.int .i64 ans,.int .i64 en,.bool short,.slice va rules.length vc] 127);cases short with
 | true=>
  have L:=ze (show zbx ⟨ans,en,true,rules⟩ b x=[x] from if_pos rfl);have HX:=ze hx;clear hr hx;go_enter Tryz.func92,Tryz.ntmps92;go_wp2;go_ret2;have k1:=k0.trans (zi (fun _=>False) _ (.cells #[.string x] 57));have o1:=zh (w.alloc (.cells #[.int .i64 ans,.int .i64 en,.bool true,.slice va rules.length vc] 127)) (.cells #[.string x] 57);rw [L.out];rw [zq8] at o1;refine ⟨_,rfl,⟨_,_,rfl,by simp [maxLen],fun j u hj=>?_⟩,k1⟩;cases j with
  | zero=>
   cases hj;exact ⟨_,0,rfl,⟨by omega,by rw [zq8,zq8];omega⟩,zf o1 rfl,HX.out⟩
  | succ j=>simp at hj
 | false=>
  obtain ⟨hA,h0⟩:=hr rfl;have AT:=ze (zhG (b:=b) (hA.chg k0));have L:=ze (show zbx ⟨ans,en,false,rules⟩ b x=Xz rules x b from if_neg (by simp));rw [h0] at AT;have K0:=ze k0;rw [L.out];clear hr hx hA h0 k0 L;go_enter Tryz.func92,Tryz.ntmps92;go_wp2_with fail;(with_reducible refine AT.out.mono ?_);rintro e w2 ⟨av,rfl,hw,k2⟩;have hs:=K0.out.size;obtain ⟨a1,a2,rfl,_,_⟩:=id hw;have HW:=ze hw;clear hw AT;go_wp2;go_ret2;exact ⟨_,rfl,HW.out.imp (fun j hj=>⟨Nat.le_trans hs hj.1,hj.2⟩),K0.out.trans k2⟩
theorem zed (w:World) (G:Nat->Prop):Zz w (.slice none 0 0) (.slice none 0 0) G ⟨[],[]⟩:=
 ⟨Xs _ _,⟨⟨none,0,rfl,by simp,fun j x hj=>by simp at hj⟩,fun n c e=>by cases e;exact ⟨rfl,rfl⟩⟩⟩
def xN (Q:List (zL × Value × Value)):List Value:=Q.flatMap fun z=>[z.2.1,z.2.2]
theorem zdV (Q:List (zL × Value × Value)) (z:zL × Value × Value):xN (Q++[z])=xN Q++[z.2.1,z.2.2]:=by unfold xN;rw [List.flatMap_append];simp
theorem Tryz.elemProof:Zt Tryz.prog 83 2 48:=Zj (z:=.agg #[.slice none 0 0,.slice none 0 0]) (by kernel_rfl) rfl (by decide)
structure zlf (base bx:Nat) (W:World) (d:zgA) (va:Option Addr) (vc:Nat) (en:Int) (tv pv:Value) (T:List Int) (Q:List (zL × Value × Value)) (G:Nat->Prop):Prop where
 obj:W.heap[bx]? = some (.cells #[.int .i64 d.ans,.int .i64 d.entry,.bool d.short,.slice va d.rules.length vc,.int .i64 en,tv,pv] 131 (0,0))
 tos:W.ownsRow base 3 1 tv T.length (T.map (Value.int .i64))
 prf:W.ownsRow base 83 2 pv Q.length (xN Q)
 ent:∀ z∈Q,Zz W z.2.1 z.2.2 G z.1
 gap:∀ k,G k->base<=k∧k < W.heap.size∧k≠bx∧tv.ownBlock≠some k∧pv.ownBlock≠some k
section
variable {base bx:Nat} {w w':World} {d:zgA} {va:Option Addr} {vc:Nat} {en:Int} {tv pv tv' pv':Value} {T:List Int} {Q:List (zL × Value × Value)} {G:Nat->Prop}
theorem zlf.chg (h:zlf base bx w d va vc en tv pv T Q G) (k:Chg (fun _=>False) w w'):zlf base bx w' d va vc en tv pv T Q G:=
 ⟨k.obj (fun e=>e) h.obj,zn h.tos k (fun _ _ e=>e),zn h.prf k (fun _ _ e=>e),fun z hz=>(h.ent z hz).chg k (fun _ _ e=>e),fun j hj=>by
  obtain ⟨q1,q2,q3⟩:=h.gap j hj;exact ⟨q1,zq7 q2 k.size,q3⟩⟩
theorem zlf.pushT {t:Int} (h:zlf base bx w d va vc en tv pv T Q G) (hg:w.grownBy w' tv.ownBlock) (ho:w'.ownsRow base 3 1 tv' (T.length+1) (T.map (Value.int .i64)++[.int .i64 t])) (sn:Ya w tv tv'):
  zlf base bx (w'.setCell ⟨bx,5,none⟩ tv') d va vc en tv' pv (T++[t]) Q G∧w'.heap[bx]? = some (.cells #[.int .i64 d.ans,.int .i64 d.entry,.bool d.short,.slice va d.rules.length vc,.int .i64 en,tv,pv] 131 (0,0))∧Chg (fun k=>k=bx∨tv.ownBlock=some k) w (w'.setCell ⟨bx,5,none⟩ tv'):=by
 have kg:=Chg.of_grown hg;have kc:=zG w' bx 5 tv'
 have nb:¬ tv.ownBlock=some bx:=fun e=>by
  obtain ⟨cs,q⟩:=zC h.tos e;exact zZ q h.obj (by decide) rfl
 have box2:=kg.obj nb h.obj
 have np:∀ k,pv.ownBlock=some k->¬ tv.ownBlock=some k∧¬ k=bx:=fun k hk=>by
  obtain ⟨cs,q⟩:=zC h.prf hk;refine ⟨fun e=>?_,fun e=>?_⟩
  · obtain ⟨ds,q2⟩:=zC h.tos e
    exact zZ q q2 (by decide) rfl
  · exact zZ q h.obj (by decide) e
 have nt:∀ k,tv'.ownBlock=some k->¬ k=bx:=fun k hk e=>by
  obtain ⟨cs,q⟩:=zC ho hk;exact zZ q box2 (by decide) e
 refine ⟨⟨zt (o:=5) box2 tv',?_,zn (zn h.prf kg (fun k hk e=>(np k hk).1 e)) kc (fun k hk e=>(np k hk).2 e),fun z hz=>((h.ent z hz).chg kg (fun k hk e=>(h.gap k hk).2.2.2.1 e)).chg kc (fun k hk e=>(h.gap k hk).2.2.1 e),fun k hk=>?_⟩,box2,(kg.mono (fun k _ e=>.inr e)).trans (kc.mono (fun k _ e=>.inl e))⟩
 · rw [List.map_append,zq3]
   exact zn ho kc (fun k hk e=>nt k hk e)
 · obtain ⟨q1,q2,q3,q4,q5⟩:=h.gap k hk
   refine ⟨q1,zq7 q2 (Nat.le_trans kg.size kc.size),q3,fun e=>?_,q5⟩;rcases sn with s | s
   · rw [s] at e;exact q4 e
   · have:=s k e;omega
theorem zlf.pushP {p:zL} {iv sv:Value} {Gp:Nat->Prop} (h:zlf base bx w d va vc en tv pv T Q G) (hp:Zz w iv sv Gp p) (hG:∀ k,Gp k->base<=k∧k < w.heap.size∧k≠bx∧tv.ownBlock≠some k∧pv.ownBlock≠some k)
  (hg:w.grownBy w' pv.ownBlock) (ho:w'.ownsRow base 83 2 pv' (Q.length+1) (xN Q++[iv,sv])) (sn:Ya w pv pv'):
  zlf base bx (w'.setCell ⟨bx,6,none⟩ pv') d va vc en tv pv' T (Q++[(p,iv,sv)]) (fun k=>G k∨Gp k)∧w'.heap[bx]? = some (.cells #[.int .i64 d.ans,.int .i64 d.entry,.bool d.short,.slice va d.rules.length vc,.int .i64 en,tv,pv] 131 (0,0))∧Chg (fun k=>k=bx∨pv.ownBlock=some k) w (w'.setCell ⟨bx,6,none⟩ pv'):=by
 have kg:=Chg.of_grown hg;have kc:=zG w' bx 6 pv'
 have nb:¬ pv.ownBlock=some bx:=fun e=>by
  obtain ⟨cs,q⟩:=zC h.prf e;exact zZ q h.obj (by decide) rfl
 have box2:=kg.obj nb h.obj
 have nt:∀ k,tv.ownBlock=some k->¬ pv.ownBlock=some k∧¬ k=bx:=fun k hk=>by
  obtain ⟨cs,q⟩:=zC h.tos hk;refine ⟨fun e=>?_,fun e=>?_⟩
  · obtain ⟨ds,q2⟩:=zC h.prf e
    exact zZ q q2 (by decide) rfl
  · exact zZ q h.obj (by decide) e
 have np:∀ k,pv'.ownBlock=some k->¬ k=bx:=fun k hk e=>by
  obtain ⟨cs,q⟩:=zC ho hk;exact zZ q box2 (by decide) e
 have gp:∀ k,G k∨Gp k->base<=k∧k < w.heap.size∧k≠bx∧tv.ownBlock≠some k∧pv.ownBlock≠some k:=fun k hk=>hk.elim (h.gap k) (hG k);refine ⟨⟨zt (o:=6) box2 pv',zn (zn h.tos kg (fun k hk e=>(nt k hk).1 e)) kc (fun k hk e=>(nt k hk).2 e),?_,fun z hz=>?_,fun k hk=>?_⟩,box2,(kg.mono (fun k _ e=>.inr e)).trans (kc.mono (fun k _ e=>.inl e))⟩
 · rw [zdV,zq3]
   exact zn ho kc (fun k hk e=>np k hk e)
 · rcases zrc.1 hz with hz | hz
   · exact (((h.ent z hz).up (fun k hk=>.inl hk)).chg kg (fun k hk e=>(gp k hk).2.2.2.2 e)).chg kc (fun k hk e=>(gp k hk).2.2.1 e)
   · rw [List.mem_singleton] at hz
     subst hz;exact ((hp.up (fun k hk=>.inr hk)).chg kg (fun k hk e=>(gp k hk).2.2.2.2 e)).chg kc (fun k hk e=>(gp k hk).2.2.1 e)
 · obtain ⟨q1,q2,q3,q4,q5⟩:=gp k hk
   refine ⟨q1,zq7 q2 (Nat.le_trans kg.size kc.size),q3,q4,fun e=>?_⟩;rcases sn with s | s
   · rw [s] at e;exact q5 e
   · have:=s k e;omega
end
def zpX (base bx:Nat) (w:World) (d:zgA) (va:Option Addr) (vc:Nat) (en:Int) (tv pv:Value) (T:List Int) (Q:List (zL × Value × Value)) (t:Int) (p:zL) (e:Ending) (w':World):Prop:=e=.returned (.int .i64 0) ∧
 Chg (fun k=>k=bx∨tv.ownBlock=some k∨pv.ownBlock=some k) w w'∧∃ tv' pv' G' iv sv,zlf base bx w' d va vc en tv' pv' (T++[t]) (Q++[(p,iv,sv)]) G'
set_option maxHeartbeats 8000000 in
set_option maxRecDepth 100000 in
theorem zov (base bx:Nat) (w:World) (d:zgA) (va:Option Addr) (vc:Nat) (en:Int) (tv pv:Value) (T:List Int) (Q:List (zL × Value × Value)) (G:Nat->Prop) (ra:Option Addr) (R:List zF) (rc:Nat) (v cv:Value) (P:List (zq × Value)) (c:List ByteArray) (G0 Gc:Nat->Prop) (x:ByteArray) (b:Int)
  (h:zlf base bx w d va vc en tv pv T Q G) (hA:Yb w ra R rc v P G0) (hF:∀ c∈zk P,c.fr.length<=1000) (hc:zx w cv Gc c) (hx:x.size<=maxLen) (hb:base<=w.heap.size) (hT:T.length<=1000) (hQ:Q.length<=1000)
  (hto:toW d b c x < c.length) (hr:d.short=false->(zX w (.slice va d.rules.length vc) (· < w.heap.size) d.rules∧Few d.rules)∧zH d.rules x b=0) (hmk:d.short=false->(xl R (zk P) x (c.getD (toW d b c x) ⟨#[]⟩) b).1=0):
  Calls Tryz.prog 62 #[.pointer (some ⟨bx,0,none⟩),.slice ra R.length rc,v,.string x,cv,.int .i64 b] w (zpX base bx w d va vc en tv pv T Q (toW d b c x) (zg6 R (zk P) d b c x)):=by
 have RE:=ze (zil w d va vc x b hx (fun e=>⟨⟨(hr e).1.1,(hr e).1.2,hx⟩,(hr e).2⟩));have HE:=ze h;have HC:=ze hc;have HAA:=ze hA;have TO:=ze hto;have IX:=ze (fun W (k:Chg (fun _=>False) w W) av p G1 (hl:zx W av G1 (zbx d b x)) hp=>zkP W cv av c (zbx d b x) p Gc G1 (hc.chg k (fun _ _ e=>e)) hl hp hto);have EQT:=ze (show zg4 c (zbx d b x)=toW d b c x from rfl);have MK:=ze (fun W (k:Chg (fun _=>False) w W) (u:ByteArray) (hu:u.size<=maxLen)=>znT W ra R rc v P G0 b x u (hA.chg k) hx hu hF);have MZ:=ze hmk;have PW:=ze (show zg6 R (zk P) d b c x=if d.short=true then ⟨[],[]⟩ else (xl R (zk P) x (c.getD (toW d b c x) ⟨#[]⟩) b).2 from rfl);obtain ⟨la,lcap,rfl,_,_⟩:=hA.certs;obtain ⟨ca,ccap,rfl,hcl,_⟩:=id hc;unfold maxLen at hcl;have c0:=zf (o:=0) h.obj rfl;have c1:=zf (o:=1) h.obj rfl;have c2:=zf (o:=2) h.obj rfl;have c3:=zf (o:=3) h.obj rfl;obtain ⟨u,hu⟩:∃ u,c[toW d b c x]? = some u:=⟨_,zq0 hto⟩;have HU:=ze hu;have GU:=ze (show c.getD (toW d b c x) ⟨#[]⟩=u from by rw [zq6,hu];rfl);rw [GU.out] at MZ PW;generalize zg6 R (zk P) d b c x=pw at *;generalize toW d b c x=t at *;generalize zbx d b x=ld at *;generalize hme:xl R (zk P) x u b=me at *;have HME:=ze hme;clear hA hc hx hto hr hmk hu hme h;go_enter Tryz.func62,Tryz.ntmps62;go_wp2_with fail;clear c0 c1 c2 c3;(with_reducible refine RE.out.mono ?_);rintro e w2 ⟨av,rfl,hav,k2⟩;obtain ⟨aa,ac,rfl,_,_⟩:=id hav;have ka:=zi (fun _=>False) w2 (.cells #[.slice aa ld.length ac] 25);have oa:=zh w2 (.cells #[.slice aa ld.length ac] 25);have K3:=ze (k2.trans ka);have I3:=IX.out _ K3.out _ _ _ (hav.chg ka (fun _ _ e=>e)) oa;rw [EQT.out] at I3;have I3:=ze I3;clear RE hav k2 ka oa IX EQT;go_wp2_with fail;generalize w2.alloc (.cells #[.slice aa ld.length ac] 25)=w3 at *;(with_reducible refine I3.out.mono ?_);rintro e w4 ⟨rfl,rfl⟩;have E3:=ze (HE.out.chg K3.out);have kp:=zi (fun _=>False) w3 (.cells #[.slice none 0 0,.slice none 0 0] 83);have OP:=ze (zh w3 (.cells #[.slice none 0 0,.slice none 0 0] 83));have KP3:=ze kp;have K4:=ze (K3.out.trans kp);have s2:=zf (o:=2) (kp.obj (fun e=>e) E3.out.obj) rfl;have GT0:=ze (show w3.heap.size < (w3.alloc (.cells #[.slice none 0 0,.slice none 0 0] 83)).heap.size from zr OP.out);have PBX:=ze (zr E3.out.obj);have HB3:=ze (Nat.le_trans hb K3.out.size);clear I3 kp hb;go_upto_if 40 with fail;generalize w3.alloc (.cells #[.slice none 0 0,.slice none 0 0] 83)=w5 at *;obtain ⟨pb,hpb⟩:∃ pb,pb=w3.heap.size:=⟨_,rfl⟩;have HPB:=ze hpb;rw [<- hpb] at OP GT0;rw [<- hpb];clear hpb;go_cut [] (fun wc=>∃ iv sv,Hid (wc.heap[pb]? = some (.cells #[iv,sv] 83 (0,0))∧Chg (fun k=>k=pb) w5 wc∧Zz wc iv sv (fun k=>pb < k∧k < wc.heap.size) pw))
 case first=>
  clear E3 HE K3 KP3 HB3 PBX HPB hT hQ;obtain ⟨ans,en1,short,rules⟩:=d;simp only at s2 MZ PW;cases short with
  | true=>
   have PE:=ze (show pw=⟨[],[]⟩ from by rw [PW.out,if_pos rfl]);go_wp2_with fail;go_meet
   case rel=>exact ⟨_,_,ze ⟨OP.out,Chg.refl _ _,by rw [PE.out];exact zed _ _⟩⟩
  | false=>
   obtain ⟨m1,m2⟩:=me;have PE:=ze (show pw=m2 from by rw [PW.out,if_neg (by decide)]);obtain rfl:m1=0:=MZ.out rfl;obtain ⟨_,_,e1,_,hcc⟩:=HC.out.chg K4.out (fun _ _ e=>e);cases e1;obtain ⟨g,o,rfl,_,q0,hus⟩:=hcc t u HU.out;have M5:=MK.out w5 K4.out u hus;rw [HME.out] at M5;have M5:=ze M5;have htl:t < c.length:=(zq1.1 HU.out).1;clear hcc hus MK PW MZ;go_wp2_with fail;clear q0 s2;(with_reducible refine M5.out.mono ?_);rintro e w6 ⟨k6,iv,sv,rfl,hit,hst⟩;have O6:=ze (k6.obj (fun e=>e) OP.out);have K6:=ze k6;have HIT:=ze hit;have HST:=ze hst;have d0:=zf (o:=0) O6.out rfl;have e0:=zm (o:=0) O6.out;have d1:=zf (o:=1) O6.out rfl;have e1:=zm (o:=1) O6.out;obtain ⟨ia,ic,rfl⟩:=hit.shape;obtain ⟨sa,sc,rfl⟩:=zl hst;generalize hn1:m2.items.length=n1 at *;generalize hn2:m2.steps.length=n2 at *;have N1:=ze hn1;have N2:=ze hn2;clear M5 k6 hit hst hn1 hn2;go_wp2_with fail;go_meet
   case rel=>
    obtain ⟨W,hW⟩:∃ W,W=(w6.setCell ⟨pb,0,none⟩ (.slice ia n1 ic)).setCell ⟨pb,1,none⟩ (.slice sa n2 sc):=⟨_,rfl⟩;obtain ⟨ob,kW⟩:=zd6 O6.out _ _ W hW;rw [<- hW];have hsz:=kW.size;have hlt:=GT0.out;refine ⟨_,_,ze ⟨ob,(K6.out.mono (fun _ _ e=>e.elim)).trans kW,?_⟩⟩;rw [PE.out];refine ⟨(HIT.out.chg kW (fun k hk e=>by omega)).up (fun k hk=>⟨by omega,by omega⟩),?_⟩;have hs2:=HST.out;exact ((zaf (l:=m2.steps) (v:=.slice sa n2 sc) (base:=w5.heap.size) (by rw [N2.out];exact hs2)).chg kW (fun k hk e=>by have:=(hs2.lt k hk).1;omega)).up (fun k hk=>⟨by have:=(hs2.lt k hk).1;omega,by have:=(hs2.lt k hk).2;omega⟩)
 case rest=>
  obtain ⟨iv,sv,HW⟩:=hcut;obtain ⟨hob,hkw,hpr⟩:=HW.out;have KC:=ze (KP3.out.next hkw (fun k hk e=>by have:=HPB.out;omega));have OB:=ze hob;have PR:=ze hpr;have E5:=ze (E3.out.chg KC.out);have KW:=ze ((K3.out.trans KC.out).mono (T:=fun k=>k=bx∨tv.ownBlock=some k∨pv.ownBlock=some k) (fun _ _ e=>e.elim))
  have GAP:=ze (show ∀ k,(pb < k∧k < wc.heap.size)->base<=k∧k < wc.heap.size∧k≠bx∧tv.ownBlock≠some k∧pv.ownBlock≠some k from fun k hk=>by
   have h1:=HPB.out;have h2:=HB3.out;have h3:=PBX.out;refine ⟨by omega,hk.2,by omega,fun e=>?_,fun e=>?_⟩
   · have:=(E3.out.tos.lt k e).2;omega
   · have:=(E3.out.prf.lt k e).2;omega)
  have PBN:=ze (show pb≠bx∧tv.ownBlock≠some pb∧pv.ownBlock≠some pb from by
   have h1:=HPB.out;have h3:=PBX.out;refine ⟨by omega,fun e=>?_,fun e=>?_⟩
   · have:=(E3.out.tos.lt pb e).2;omega
   · have:=(E3.out.prf.lt pb e).2;omega)
  have HBC:=ze (show base<=wc.heap.size from Nat.le_trans HB3.out KC.out.size);clear HW hob hkw hpr E3 K3 KP3 K4 s2 HPB HB3 PBX GT0 OP MK MZ PW HME GU HU HC HE me u;obtain ⟨ta,tc,rfl⟩:=zl E5.out.tos;have x5:=zf (o:=5) E5.out.obj rfl;have ka:=zi (fun _=>False) wc (.cells #[.int .i64 (t:Int)] 3);have EA:=ze (E5.out.chg ka);have hb6:base<=(wc.alloc (.cells #[.int .i64 (t:Int)] 3)).heap.size:=Nat.le_trans HBC.out ka.size;have KA:=ze ka;clear ka;go_wp2_with (at_builtin;refine Zq rfl (.tmp 61) (.tmp 63) 36 rfl 3 1 8 Tryz.underlying36 Tryz.elemInt' base (.slice ta T.length tc) T.length (T.map (Value.int .i64)) rfl EA.out.tos _ [.int .i64 (t:Int)] 3 (0,0) rfl (zh _ _) rfl ?a1 ?a2 ?a3 ?a4 ?a5)
  case a1=>intro u hu;simp at hu;subst hu;rfl
  case a2=>omega
  case a3=>unfold maxLen;omega
  case a4=>exact hb6
  intro v9 w9 o9 g9 sn9;obtain ⟨a9,c9,rfl⟩:=zl o9;obtain ⟨p1,p2,p3⟩:=EA.out.pushT g9 o9 sn9;have E9:=ze p1;have y5:=zf (o:=5) p2 rfl;have f5:=zm (o:=5) p2;have KX:=ze ((KA.out.mono (T:=fun k=>k=bx∨(Value.slice ta T.length tc).ownBlock=some k) (fun _ _ e=>e.elim)).trans p3)
  have OB9:=ze (KX.out.obj (fun e=>by
   rcases e with e | e
   · exact PBN.out.1 e
   · exact PBN.out.2.1 e) OB.out)
  have PR9:=ze (PR.out.chg KX.out (fun k hk e=>by
   obtain ⟨_,_,q1,q2,_⟩:=GAP.out k hk;rcases e with e | e
   · exact q1 e
   · exact q2 e))
  have KW9:=ze (KW.out.trans (KX.out.mono (fun k _ e=>e.elim .inl (fun e=>.inr (.inl e)))))
  have GAP9:=ze (show ∀ k,(pb < k∧k < wc.heap.size)->base<=k∧k < (w9.setCell ⟨bx,5,none⟩ (.slice a9 (T.length+1) c9)).heap.size∧k≠bx∧(Value.slice a9 (T.length+1) c9).ownBlock≠some k∧pv.ownBlock≠some k from fun k hk=>by
   obtain ⟨q0,q1,q2,q3,q4⟩:=GAP.out k hk;refine ⟨q0,zq7 q1 KX.out.size,q2,fun e=>?_,q4⟩;rcases sn9 with s | s
   · rw [s] at e;exact q3 e
   · have h1:=s k e
     have h2:=KA.out.size;omega)
  have PBN9:=ze PBN.out.2.2;have HB9:=ze (show base<=(w9.setCell ⟨bx,5,none⟩ (.slice a9 (T.length+1) c9)).heap.size from Nat.le_trans HBC.out KX.out.size);clear p1 p2 p3 o9 g9 sn9 EA KA KX hb6 E5 KW OB PR GAP PBN HBC x5;go_wp2_with fail;clear y5 f5;generalize w9.setCell ⟨bx,5,none⟩ (.slice a9 (T.length+1) c9)=wa at *;obtain ⟨qa,qc,rfl⟩:=zl E9.out.prf;have x6:=zf (o:=6) E9.out.obj rfl;have z0:=zf (o:=0) OB9.out rfl;have z1:=zf (o:=1) OB9.out rfl;refine Zk (N:=80) [.rd [0,1,2,3,4,5,6],.ef 7,.ef 8,.ef 9,.ef 10,.ef 11,.ef 12] 12 (fun W=>W.cell? ⟨bx,6,none⟩=some (.slice qa Q.length qc)∧W.cell? ⟨pb,0,none⟩=some iv∧W.cell? ⟨pb,1,none⟩=some sv) (by kernel_rfl) (by kernel_rfl) (by kernel_rfl) (by kernel_rfl) (by kernel_rfl) (Nat.le_of_ble_eq_true rfl) ⟨x6,z0,z1⟩ ?_;refine xu (A:=?A1) ?h1 ?h2
  case h1=>
   rintro w' ⟨y0,y1,y2⟩ K hK;simp only [zM,zqT,zqU,zqV,zqW,zqX]
   repeat still_step
   refine wpStill_nil ?_;exact hK
  have kd:=zw (fun _=>False) wa;have ED:=ze (E9.out.chg kd);have OD:=ze (kd.obj (fun e=>e) OB9.out);have PD:=ze (PR9.out.chg kd (fun _ _ e=>e));have KD:=ze (KW9.out.trans (kd.mono (fun _ _ e=>e.elim)))
  have GD:=ze (fun k hk=>show base<=k∧k < wa.drew.heap.size∧k≠bx∧(Value.slice a9 (T.length+1) c9).ownBlock≠some k∧(Value.slice qa Q.length qc).ownBlock≠some k from by
   obtain ⟨q0,q1,q2⟩:=GAP9.out k hk;exact ⟨q0,zq7 q1 kd.size,q2⟩)
  have HBD:=ze (Nat.le_trans HB9.out kd.size);clear kd x6 z0 z1 E9 OB9 PR9 KW9 GAP9 HB9;generalize wa.drew=wd at *;refine zJ rfl ?_;go_wp2_with fail;have kb:=zi (fun _=>False) wd (.cells #[iv,sv] 83);have EB:=ze (ED.out.chg kb);have ob:=kb.obj (fun e=>e) OD.out;have obn:=zh wd (.cells #[iv,sv] 83);have PB:=ze (PD.out.chg kb (fun _ _ e=>e));have KB:=ze (KD.out.trans (kb.mono (fun _ _ e=>e.elim)))
  have GB:=ze (fun k hk=>show base<=k∧k < (wd.alloc (.cells #[iv,sv] 83)).heap.size∧k≠bx∧(Value.slice a9 (T.length+1) c9).ownBlock≠some k∧(Value.slice qa Q.length qc).ownBlock≠some k from by
   obtain ⟨q0,q1,q2⟩:=GD.out k hk;exact ⟨q0,zq7 q1 kb.size,q2⟩)
  have hbb:=Nat.le_trans HBD.out kb.size;have x6:=zf (o:=6) EB.out.obj rfl;have z0:=zf (o:=0) ob rfl;have z1:=zf (o:=1) ob rfl
  first | refine ⟨.inr ⟨x6,z0,z1⟩,?_⟩ | refine ⟨⟨x6,z0,z1⟩,?_⟩
  clear kb ED OD PD KD GD x6 z0 z1;obtain ⟨i1,i2,i3⟩:=PB.out.items.shape;obtain ⟨s1,s2,s3⟩:=PB.out.steps.shape;refine zJ rfl ?_;refine Zq rfl (.tmp 73) (.tmp 75) 37 rfl 83 2 48 Tryz.underlying37 Tryz.elemProof base (.slice qa Q.length qc) Q.length (xN Q) rfl EB.out.prf wd.heap.size [iv,sv] 83 (0,0) rfl obn rfl (by rw [i3,s3];intro u hu;simp at hu;rcases hu with rfl | rfl <;> rfl) (by omega) (by unfold maxLen;omega) hbb ?_;generalize wd.alloc (.cells #[iv,sv] 83)=wb at *;intro v8 w8 o8 g8 sn8;obtain ⟨a8,c8,rfl⟩:=zl o8;have p0:=(Chg.of_grown g8).obj (fun e=>PBN9.out e) ob;obtain ⟨p1,p2,p3⟩:=EB.out.pushP PB.out GB.out g8 o8 sn8;have E8:=ze p1;have x6:=zf (o:=6) p2 rfl;have f6:=zm (o:=6) p2;have K8:=ze (KB.out.trans (p3.mono (fun k _ e=>e.elim .inl (fun e=>.inr (.inr e)))));have z0:=zf (o:=0) p0 rfl;have z1:=zf (o:=1) p0 rfl;clear p0 p1 p2 p3 o8 g8 sn8 EB KB GB PB hbb ob obn;go_wp2_with fail
  first | refine ⟨.inr ⟨x6,z0,z1⟩,?_⟩ | refine ⟨⟨x6,z0,z1⟩,?_⟩
  refine zJ rfl ?_;go_wp2_with fail
  first | refine ⟨.inr ⟨x6,z0,z1⟩,?_⟩ | refine ⟨⟨x6,z0,z1⟩,?_⟩
  refine zJ rfl ?_;go_wp2_with fail
  first | refine ⟨.inr ⟨x6,z0,z1⟩,?_⟩ | refine ⟨⟨x6,z0,z1⟩,?_⟩
  refine zJ rfl ?_;go_wp2_with fail
  first | refine ⟨.inr ⟨x6,z0,z1⟩,?_⟩ | refine ⟨⟨x6,z0,z1⟩,?_⟩
  refine zJ rfl ?_;go_wp2_with fail
  first | refine ⟨.inl rfl,yA ?_⟩ | (unfold zc8;refine yA ?_)
  go_wp2;go_ret;exact ⟨rfl,K8.out,_,_,_,_,_,E8.out⟩
end Go.Proofs.YthdfplafihmejaaGreat
