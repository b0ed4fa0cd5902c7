/-
  Decide: the reference's Explain.
-/
import Derived.Test.YthdfplafihmejaaGreatZtVShort
import Derived.Test.YthdfplafihmejaaGreatZtVWrap
import Derived.Test.YthdfplafihmejaaGreatZtDRun
import Derived.Test.YthdfplafihmejaaGreatZtAAskZ
import Derived.Test.YthdfplafihmejaaGreatZtAFitR
namespace Go.Proofs.YthdfplafihmejaaGreat
open Go.RowKit Go.Maps
theorem Tryz.sizeWhyR:(Tryz.prog.info? 42).map (·.size)=some 3:=by kernel_rfl
theorem yx {P:Program} {ops:Array Oper} {w:World} {Q:Exit->Act->World->Prop} {a:Act} {o:Oper} {rest:List Oper} (hgd:o.guard=none) (ty:TypeId) (x y:Operand) (ho:o.op=.store ty x y)
  (g:Nat) (hx:a.eval x=.pointer (some ⟨g,0,none⟩)) (v0 v1 v2:Value) (hy:a.eval y=.agg #[v0,v1,v2]) (h0:v0.oneCell'=true) (h1:v1.oneCell'=true) (h2:v2.oneCell'=true) (hi:(P.info? ty).map (·.size)=some 3)
  (t:TypeId) (o0 o1 o2:Value) (hg:w.heap[g]? = some (.cells #[o0,o1,o2] t (0,0)))
  (h:∀ W,W.heap[g]? = some (.cells #[v0,v1,v2] t (0,0))->Chg (·=g) w W->wpList P ops Q rest (a.put o.dst undef) W):wpList P ops Q (o :: rest) a w:=by
 refine wpList_plain hgd fun K hK=>?_;have hst:=run_storeCells_at P g 0 t [v0,v1,v2] 0 #[o0,o1,o2] w hg (by simp) (by intro v hv;simp at hv;rcases hv with rfl | rfl | rfl <;> assumption);have hh:(w.setRow g #[v0,v1,v2]).heap[g]? = some (.cells #[v0,v1,v2] t (0,0)):=setRow_heap w g #[o0,o1,o2] #[v0,v1,v2] t (0,0) hg;have hk:Chg (·=g) w (w.setRow g #[v0,v1,v2]):=⟨rfl,rfl,rfl,by simp [World.setRow],fun k hk hs=>by rw [setRow_other _ _ _ _ (by rintro rfl;exact hs rfl)]⟩;cases hq:P.info? ty with
 | none=>simp [hq] at hi
 | some i=>
  have hin:i.size=3:=by simpa [hq] using hi
  unfold Oper.wp execOp;simp only [ho,hx,hy,Instr.storeAt,Instr.sureAddr,storeVar];simp [sizeOf,typeInfo,hq,hin,hst,Value.cells];exact hK _ _ (h _ hh hk)
theorem zlg {R:List zF} {C:List zq} {L:List Za} {op:Int} {c:List ByteArray} {b:Int} (h:zaH C L op c≠0):(yG R C L op c b).1=zaH C L op c:=by
 unfold zaH at h ⊢;unfold yG;by_cases h1:Ye C L c=true
 · rw [if_pos h1] at h ⊢
   rw [if_pos h1];by_cases h2:opB op=true
   · rw [if_pos h2] at h;exact absurd rfl h
   · rw [if_neg h2,if_neg (fun q=>h2 (zit.2 (XP.1 q).1))]
 · rw [if_neg h1,if_neg h1]
theorem zjQ {C:List zq} {L:List Za} {op:Int} {c:List ByteArray} (h:zaH C L op c=0):Ye C L c=true∧0<=op∧op < 8:=by
 unfold zaH at h;by_cases h1:Ye C L c=true
 · rw [if_pos h1] at h
   by_cases h2:opB op=true
   · exact ⟨h1,zit.1 h2⟩
   · rw [if_neg h2] at h;cases h
 · rw [if_neg h1] at h;cases h
theorem zmI {R:List zF} {C:List zq} {L:List Za} {op:Int} {c:List ByteArray} {b:Int} (h:Ye C L c=true) (hb:¬ (1<=b∧b<=5000)):(yG R C L op c b).1=1:=by
 unfold yG;rw [if_pos h,if_neg (fun q=>hb (XP.1 q).2)]
theorem zoj {R:List zF} {C:List zq} {L:List Za} {op:Int} {c:List ByteArray} {b:Int} (h:Ye C L c=true) (ho:0<=op∧op < 8) (hb:1<=b∧b<=5000) (hn:400 < R.length+ZB C):(yG R C L op c b).1=3:=by
 unfold yG;rw [if_pos h,if_pos (XP.2 ⟨ho,hb⟩),if_pos hn]
theorem zmH {R:List zF} {C:List zq} {L:List Za} {op:Int} {c:List ByteArray} {b:Int} (h:Ye C L c=true) (ho:0<=op∧op < 8) (hb:1<=b∧b<=5000) (hn:¬ 400 < R.length+ZB C):yG R C L op c b=if ZX op c L < L.length then (0,⟨1,(ZX op c L:Int),true,[]⟩) else (0,zka R C L op c b):=by
 unfold yG;rw [if_pos h,if_pos (XP.2 ⟨ho,hb⟩),if_neg hn]
theorem zpB {R:List zF} {C:List zq} {L:List Za} {op:Int} {c:List ByteArray} {b k:Int} (h:(yG R C L op c b).1=k) (hk:k≠0):Yt R C L op c b=(0,⟨0,[],[]⟩,k):=by
 unfold Yt;rw [if_neg (fun q=>hk (by rw [<- h];exact q.1)),zgl (by rw [h];exact hk),h];rfl
theorem zo7 {l:List ByteArray} (h:zaJ l=true):l.Nodup:=(zd5 h).imp (fun {a b} q e=>by
 subst e;rw [show Yf a a=false from yH _] at q;cases q)
def tS (c:List ByteArray) (y:ByteArray):Nat:=c.findIdx fun v=>decide (v∈[y])
theorem zp4 {c:List ByteArray} {y:ByteArray} (hy:y∈c):tS c y < c.length:=List.findIdx_lt_length_of_exists ⟨y,hy,by simp⟩
theorem zqC {c:List ByteArray} (hn:c.Nodup) {y z:ByteArray} {k:Nat} (hz:c[k]? = some z) (hy:y∈c):z=y↔k=tS c y:=by
 have hl:=zp4 hy;have h1:=List.findIdx_getElem (xs:=c) (p:=fun v=>decide (v∈[y])) (w:=hl);have h2:c[tS c y]? = some y:=by rw [zq0 hl];exact congrArg some (List.mem_singleton.1 (of_decide_eq_true h1))
 constructor
 · intro e
   subst e;exact (List.getElem?_inj (zq1.1 hz).1 hn).1 (by rw [hz,h2])
 · intro e
   subst e;rw [hz] at h2;exact Option.some.inj h2
structure YIn (base bx:Nat) (W:World) (en:Int) (tv pv:Value) (T:List Int) (Q:List (zL × Value × Value)) (G:Nat->Prop):Prop where
 obj:W.heap[bx]? = some (.cells #[.int .i64 en,tv,pv] 42 (0,0))
 tos:W.ownsRow base 3 1 tv T.length (T.map (Value.int .i64))
 prf:W.ownsRow base 83 2 pv Q.length (xN Q)
 ent:∀ z∈Q,Zz W z.2.1 z.2.2 G z.1
 gap:∀ k,G k->base<=k∧k < W.heap.size∧k≠bx∧tv.ownBlock≠some k∧pv.ownBlock≠some k
section
variable {base bx:Nat} {w w':World} {en:Int} {tv pv tv' pv':Value} {T:List Int} {Q:List (zL × Value × Value)} {G:Nat->Prop}
theorem YIn.chg (h:YIn base bx w en tv pv T Q G) (k:Chg (fun _=>False) w w'):YIn base bx w' en tv pv T Q G:=
 ⟨k.obj (fun e=>e) h.obj,zn h.tos k (fun _ _ e=>e),zn h.prf k (fun _ _ e=>e),fun z hz=>(h.ent z hz).chg k (fun _ _ e=>e),fun j hj=>by
  obtain ⟨q1,q2,q3⟩:=h.gap j hj;exact ⟨q1,zq7 q2 k.size,q3⟩⟩
theorem YIn.pushT {t:Int} (h:YIn base bx w en tv pv T Q G) (hg:w.grownBy w' tv.ownBlock) (ho:w'.ownsRow base 3 1 tv' (T.length+1) (T.map (Value.int .i64)++[.int .i64 t])) (sn:Ya w tv tv'):
  YIn base bx (w'.setCell ⟨bx,1,none⟩ tv') en tv' pv (T++[t]) Q G∧w'.heap[bx]? = some (.cells #[.int .i64 en,tv,pv] 42 (0,0))∧Chg (fun k=>k=bx∨tv.ownBlock=some k) w (w'.setCell ⟨bx,1,none⟩ tv'):=by
 have kg:=Chg.of_grown hg;have kc:=zG w' bx 1 tv'
 have nb:¬ tv.ownBlock=some bx:=fun e=>by
  obtain ⟨cs,q⟩:=zC h.tos e;exact zZ q h.obj (by decide) rfl
 have box2:=kg.obj nb h.obj
 have np:∀ k,pv.ownBlock=some k->¬ tv.ownBlock=some k∧¬ k=bx:=fun k hk=>by
  obtain ⟨cs,q⟩:=zC h.prf hk;refine ⟨fun e=>?_,fun e=>?_⟩
  · obtain ⟨ds,q2⟩:=zC h.tos e
    exact zZ q q2 (by decide) rfl
  · exact zZ q h.obj (by decide) e
 have nt:∀ k,tv'.ownBlock=some k->¬ k=bx:=fun k hk e=>by
  obtain ⟨cs,q⟩:=zC ho hk;exact zZ q box2 (by decide) e
 refine ⟨⟨zt (o:=1) box2 tv',?_,zn (zn h.prf kg (fun k hk e=>(np k hk).1 e)) kc (fun k hk e=>(np k hk).2 e),fun z hz=>((h.ent z hz).chg kg (fun k hk e=>(h.gap k hk).2.2.2.1 e)).chg kc (fun k hk e=>(h.gap k hk).2.2.1 e),fun k hk=>?_⟩,box2,(kg.mono (fun k _ e=>.inr e)).trans (kc.mono (fun k _ e=>.inl e))⟩
 · rw [List.map_append,zq3]
   exact zn ho kc (fun k hk e=>nt k hk e)
 · obtain ⟨q1,q2,q3,q4,q5⟩:=h.gap k hk
   refine ⟨q1,zq7 q2 (Nat.le_trans kg.size kc.size),q3,fun e=>?_,q5⟩;rcases sn with s | s
   · rw [s] at e;exact q4 e
   · have:=s k e;omega
theorem YIn.pushP {p:zL} {iv sv:Value} {Gp:Nat->Prop} (h:YIn base bx w en tv pv T Q G) (hp:Zz w iv sv Gp p) (hG:∀ k,Gp k->base<=k∧k < w.heap.size∧k≠bx∧tv.ownBlock≠some k∧pv.ownBlock≠some k)
  (hg:w.grownBy w' pv.ownBlock) (ho:w'.ownsRow base 83 2 pv' (Q.length+1) (xN Q++[iv,sv])) (sn:Ya w pv pv'):
  YIn base bx (w'.setCell ⟨bx,2,none⟩ pv') en tv pv' T (Q++[(p,iv,sv)]) (fun k=>G k∨Gp k)∧w'.heap[bx]? = some (.cells #[.int .i64 en,tv,pv] 42 (0,0))∧Chg (fun k=>k=bx∨pv.ownBlock=some k) w (w'.setCell ⟨bx,2,none⟩ pv'):=by
 have kg:=Chg.of_grown hg;have kc:=zG w' bx 2 pv'
 have nb:¬ pv.ownBlock=some bx:=fun e=>by
  obtain ⟨cs,q⟩:=zC h.prf e;exact zZ q h.obj (by decide) rfl
 have box2:=kg.obj nb h.obj
 have nt:∀ k,tv.ownBlock=some k->¬ pv.ownBlock=some k∧¬ k=bx:=fun k hk=>by
  obtain ⟨cs,q⟩:=zC h.tos hk;refine ⟨fun e=>?_,fun e=>?_⟩
  · obtain ⟨ds,q2⟩:=zC h.prf e
    exact zZ q q2 (by decide) rfl
  · exact zZ q h.obj (by decide) e
 have np:∀ k,pv'.ownBlock=some k->¬ k=bx:=fun k hk e=>by
  obtain ⟨cs,q⟩:=zC ho hk;exact zZ q box2 (by decide) e
 have gp:∀ k,G k∨Gp k->base<=k∧k < w.heap.size∧k≠bx∧tv.ownBlock≠some k∧pv.ownBlock≠some k:=fun k hk=>hk.elim (h.gap k) (hG k);refine ⟨⟨zt (o:=2) box2 pv',zn (zn h.tos kg (fun k hk e=>(nt k hk).1 e)) kc (fun k hk e=>(nt k hk).2 e),?_,fun z hz=>?_,fun k hk=>?_⟩,box2,(kg.mono (fun k _ e=>.inr e)).trans (kc.mono (fun k _ e=>.inl e))⟩
 · rw [zdV,zq3]
   exact zn ho kc (fun k hk e=>np k hk e)
 · rcases zrc.1 hz with hz | hz
   · exact (((h.ent z hz).up (fun k hk=>.inl hk)).chg kg (fun k hk e=>(gp k hk).2.2.2.2 e)).chg kc (fun k hk e=>(gp k hk).2.2.1 e)
   · rw [List.mem_singleton] at hz
     subst hz;exact ((hp.up (fun k hk=>.inr hk)).chg kg (fun k hk e=>(gp k hk).2.2.2.2 e)).chg kc (fun k hk e=>(gp k hk).2.2.1 e)
 · obtain ⟨q1,q2,q3,q4,q5⟩:=gp k hk
   refine ⟨q1,zq7 q2 (Nat.le_trans kg.size kc.size),q3,q4,fun e=>?_⟩;rcases sn with s | s
   · rw [s] at e;exact q5 e
   · have:=s k e;omega
end
theorem zjr {C:List zq} (h:∀ k∈C,k.fr.length<=1200):∀ k,ZB (C.take k)<=1200*k
 | 0=>by rw [List.take_zero];simp [ZB]
 | k+1=>by
  have ih:=zjr h k;cases hq:C[k]? with
  | none=>
   have:C.length<=k:=List.getElem?_eq_none_iff.1 hq;rw [List.take_of_length_le (by omega)];rw [List.take_of_length_le this] at ih;omega
  | some x=>
   have:=h x (zq2 hq);rw [za2 hq];omega
theorem zfE {R:List zF} {C:List zq} {L:List Za} {op:Int} {c:List ByteArray} {b:Int} {d:zgA} (h:yG R C L op c b=(0,d)) (hd:d.ans≠1):Yt R C L op c b=(d.ans,⟨0,[],[]⟩,0):=by
 unfold Yt;rw [h,if_neg (fun q=>hd q.2)];rfl
set_option maxHeartbeats 16000000 in
set_option maxRecDepth 100000 in
theorem zde (w:World) (ra:Option Addr) (R:List zF) (rc:Nat) (v lv cv:Value) (P:List (zq × Value)) (L:List Za) (op:Int) (c:List ByteArray) (b:Int) (h:zgC w ra R rc v lv cv P L c (· < w.heap.size)) (hi:zpT R P L c ⟨0,[],[]⟩) (hfr:∀ k∈zk P,k.fr.length<=1200):
  Calls Tryz.prog 14 #[.slice ra R.length rc,v,lv,.int .i64 op,cv,.int .i64 b] w (zjO w (Yt R (zk P) L op c b)):=by
 have B1:=zh (w.alloc (.cells #[.int .i64 0,.slice none 0 0,.slice none 0 0] 42)) (.cells #[.int .i64 0,.slice none 0 0,.slice none 0 0] 42);rw [zq8] at B1;have O13:=ze (Ze (.cells #[.int .i64 0,.slice none 0 0,.slice none 0 0] 42) (zh w (.cells #[.int .i64 0,.slice none 0 0,.slice none 0 0] 42)));have O15:=ze B1;have KB:=ze ((zi (fun _=>False) w (.cells #[.int .i64 0,.slice none 0 0,.slice none 0 0] 42)).trans (zi _ _ (.cells #[.int .i64 0,.slice none 0 0,.slice none 0 0] 42)));have HA:=ze h;have HI:=ze hi;have WR:=ze (fun W (k:Chg (fun _=>False) w W)=>zj9 W v lv cv P L op c _ _ _ (h.run.certs.chg k (fun _ _ e=>e)) (h.ents.chg k (fun _ _ e=>e)) h.few (h.set.chg k (fun _ _ e=>e)) hi.who hi.set hi.cert);have SH:=ze (fun W (k:Chg (fun _=>False) w W)=>zgW W lv cv L op c _ _ (h.ents.chg k (fun _ _ e=>e)) h.few (h.set.chg k (fun _ _ e=>e)));have HFR:=ze hfr;have hL:=h.few;have hRl:=h.run.many;have hPl:=h.run.few;obtain ⟨la,lcap,rfl,_,_⟩:=h.run.certs;obtain ⟨ea,ec,rfl,_,_⟩:=h.ents.shape;obtain ⟨ca,cc,rfl,hcl,_⟩:=h.set;have EN:=ze (fun k=>@zpB R (zk P) L op c b k);have WD:=ze (@zlg R (zk P) L op c b);have WZ:=ze (@zjQ (zk P) L op c);have DB:=ze (@zmI R (zk P) L op c b);have DM:=ze (@zoj R (zk P) L op c b);have DS:=ze (@zmH R (zk P) L op c b);generalize hex:Yt R (zk P) L op c b=ex at *;have EX:=ze hex;clear h hi B1 hfr hex;go_enter Tryz.func14,Tryz.ntmps14;go_wp2_with fail;generalize (w.alloc (.cells #[.int .i64 0,.slice none 0 0,.slice none 0 0] 42)).alloc (.cells #[.int .i64 0,.slice none 0 0,.slice none 0 0] 42)=w1 at *;obtain ⟨b13,hb⟩:∃ b,b=w.heap.size:=⟨_,rfl⟩;rw [<- hb] at O13 O15;rw [<- hb];have hbw:w.heap.size<=b13:=by omega
 have hb13:b13 < w1.heap.size:=zr O13.out;clear hb;(with_reducible refine (WR.out w1 KB.out).mono ?_);rintro e w2 ⟨rfl,k2⟩;have KQ:=ze (KB.out.trans k2);have O13:=ze (k2.obj (fun e=>e) O13.out);have O15:=ze (k2.obj (fun e=>e) O15.out);clear WR k2 KB;by_cases hw:zaH (zk P) L op c=0
 rotate_left
 · as_aux_lemma=>
   have EB:=ze (EN.out _ (WD.out hw) hw);have g1:(zaH (zk P) L op c != 0)=true:=zre.2 hw;generalize zaH (zk P) L op c=we at *;generalize w2=wq at *;clear hw EN WD WZ DB DM DS SH HA HI HFR;go_wp2_with fail;have s0:=zf (o:=0) O15.out rfl;have s1:=zf (o:=1) O15.out rfl;have s2:=zf (o:=2) O15.out rfl;refine zu (N:=218) [.rd [0,1,2],.ef 3,.rd [4]] (fun W=>W.cell? ⟨(b13+1),0,none⟩=some (.int .i64 0)∧W.cell? ⟨(b13+1),1,none⟩=some (.slice none 0 0)∧W.cell? ⟨(b13+1),2,none⟩=some (.slice none 0 0)) (by kernel_rfl) (by kernel_rfl) (by kernel_rfl) (by kernel_rfl) (Nat.le_of_ble_eq_true rfl) ⟨s0,s1,s2⟩ ?_;refine zB (A:=?A1) ?h1 ?k1
   case h1=>
    rintro w' ⟨z0,z1,z2⟩ K hK;simp only [zM,zqT,zqU,zqV,zqW,zqX]
    repeat still_step
    refine wpStill_nil ?_;exact hK
   have od:=ze ((zw (fun _=>False) wq).obj (fun e=>e) O13.out);have bd:=ze ((zw (fun _=>False) wq).obj (fun e=>e) O15.out);have kd:=ze (show Chg (fun _=>False) w wq.drew from KQ.out.drew);have kx:=ze (zw (fun k=>k=b13) wq);clear s0 s1 s2;generalize wq.drew=wd at *;refine zI rfl ?_;refine yx rfl 42 (.tmp 13) (.tmp 46) rfl b13 rfl (.int .i64 0) (.slice none 0 0) (.slice none 0 0) rfl rfl rfl rfl Tryz.sizeWhyR _ _ _ _ od.out ?_;intro W oW kW;have bW:=kW.obj (by omega) bd.out;go_wp2_with fail;refine ⟨⟨zf (o:=0) bW rfl,zf (o:=1) bW rfl,zf (o:=2) bW rfl⟩,?_⟩;have KW:=ze (kd.out.next kW (fun k hk e=>by omega));have OW:=ze oW;refine zB (A:=?B1) ?i1 ?j1
   case i1=>
    rintro w' z0 K hK;clear z0;simp only [zM,zqT,zqU,zqV,zqW,zqX]
    repeat still_step
    refine wpStill_nil ?_;exact hK
   refine zR ?_;go_wp2;have z0:=zf (o:=0) OW.out rfl;have z1:=zf (o:=1) OW.out rfl;have z2:=zf (o:=2) OW.out rfl;refine bodyPost_ret (v:=.tuple #[.int .i64 0,.agg #[.int .i64 0,.slice none 0 0,.slice none 0 0],.int .i64 we]) (by simp [results,Tryz.results14,go_sem,z0,z1,z2]) rfl ?_;rw [EB.out];exact ⟨KW.out,_,_,rfl,xB _ _ _⟩
 obtain ⟨hlb,hop⟩:=WZ.out hw;have LB:=ze hlb;have OPB:=ze hop;rw [hw];clear hw hlb hop WD WZ;have NL:=ze (zjr HFR.out);go_wp2_with fail;go_loopw [17,18] (fun nv iv wr=>∃ k n:Nat,k<=P.length∧n<=1200*k∧nv=.int .i64 ((R.length:Int)+n)∧iv=.int .i64 k∧Hid (n=ZB ((zk P).take k))∧Hid (w2=wr)) (fun _ iv _=>P.length - (intOf iv).toNat)
 case atStart=>exact ⟨0,0,by omega,by omega,by simp,rfl,ze (by simp [ZB]),ze rfl⟩
 case round=>
 obtain ⟨k,n,hk,hn,rfl,rfl,HN,hw⟩:=hrel;have hw:=hw.out;subst hw;by_cases hlt:k < P.length
 · as_aux_lemma=>
   obtain ⟨⟨cc1,sv⟩,hx⟩:∃ x,P[k]? = some x:=⟨_,zq0 hlt⟩;have GX:=ze (Zy hx);obtain ⟨_,_,e1,_,hcl2⟩:=HA.out.run.certs.chg KQ.out (fun _ _ e=>e);cases e1;obtain ⟨g,o,sa,sc,rfl,_,e2,_,_,_,q3,_,_,_,_⟩:=hcl2 k (cc1,sv) hx;simp only at q3;have hf:=HFR.out cc1 (zq2 GX.out);have NX:=ze (show n+cc1.fr.length=ZB ((zk P).take (k+1)) from by rw [za2 GX.out,<- HN.out]);clear hcl2 hx e2 GX;go_wp2;go_roundw
   case rel=>exact ⟨k+1,n+cc1.fr.length,by omega,by omega,by first | go_num | (congr 1;omega),by go_num,NX,ze (by first | trivial | rfl)⟩
   case measure=>simp [intOf];omega
 obtain rfl:k=P.length:=by omega
 have NE:=ze (show n=ZB (zk P) from by rw [HN.out,<- zQ P,zrk]);clear HN hlt hk;by_cases hb1:1<=b∧b<=5000
 rotate_left
 · as_aux_lemma=>
   have EB:=ze (EN.out _ (DB.out LB.out hb1) (by decide));generalize w2=wq at *;clear EN DB DM DS SH HA HI HFR NL;by_cases h1:b < 1
   · have g1:decide (b < 1)=true:=zqY h1
     clear hb1;go_wp2_with fail;have s0:=zf (o:=0) O15.out rfl;have s1:=zf (o:=1) O15.out rfl;have s2:=zf (o:=2) O15.out rfl;refine zu (N:=218) [.rd [0,1],.ef 2,.rd [3]] (fun W=>W.cell? ⟨(b13+1),0,none⟩=some (.int .i64 0)∧W.cell? ⟨(b13+1),1,none⟩=some (.slice none 0 0)∧W.cell? ⟨(b13+1),2,none⟩=some (.slice none 0 0)) (by kernel_rfl) (by kernel_rfl) (by kernel_rfl) (by kernel_rfl) (Nat.le_of_ble_eq_true rfl) ⟨s0,s1,s2⟩ ?_;refine zB (A:=?A2) ?h2 ?k2
     case h2=>
      rintro w' ⟨z0,z1,z2⟩ K hK;simp only [zM,zqT,zqU,zqV,zqW,zqX]
      repeat still_step
      refine wpStill_nil ?_;exact hK
     have od:=ze ((zw (fun _=>False) wq).obj (fun e=>e) O13.out);have bd:=ze ((zw (fun _=>False) wq).obj (fun e=>e) O15.out);have kd:=ze (show Chg (fun _=>False) w wq.drew from KQ.out.drew);have kx:=ze (zw (fun k=>k=b13) wq);clear s0 s1 s2;generalize wq.drew=wd at *;refine zI rfl ?_;refine yx rfl 42 (.tmp 13) (.tmp 70) rfl b13 rfl (.int .i64 0) (.slice none 0 0) (.slice none 0 0) rfl rfl rfl rfl Tryz.sizeWhyR _ _ _ _ od.out ?_;intro W oW kW;have bW:=kW.obj (by omega) bd.out;go_wp2_with fail;refine ⟨⟨zf (o:=0) bW rfl,zf (o:=1) bW rfl,zf (o:=2) bW rfl⟩,?_⟩;have KW:=ze (kd.out.next kW (fun k hk e=>by omega));have OW:=ze oW;refine zB (A:=?B2) ?i2 ?j2
     case i2=>
      rintro w' z0 K hK;clear z0;simp only [zM,zqT,zqU,zqV,zqW,zqX]
      repeat still_step
      refine wpStill_nil ?_;exact hK
     refine zR ?_;go_wp2;have z0:=zf (o:=0) OW.out rfl;have z1:=zf (o:=1) OW.out rfl;have z2:=zf (o:=2) OW.out rfl;refine bodyPost_ret (v:=.tuple #[.int .i64 0,.agg #[.int .i64 0,.slice none 0 0,.slice none 0 0],.int .i64 1]) (by simp [results,Tryz.results14,go_sem,z0,z1,z2]) rfl ?_;rw [EB.out];exact ⟨KW.out,_,_,rfl,xB _ _ _⟩
   · have g1:decide (b < 1)=false:=zqZ h1
     have g2:decide (5000 < b)=true:=zqY (by omega);clear hb1;go_wp2_with fail;have s0:=zf (o:=0) O15.out rfl;have s1:=zf (o:=1) O15.out rfl;have s2:=zf (o:=2) O15.out rfl;refine zu (N:=218) [.rd [0,1],.ef 2,.rd [3]] (fun W=>W.cell? ⟨(b13+1),0,none⟩=some (.int .i64 0)∧W.cell? ⟨(b13+1),1,none⟩=some (.slice none 0 0)∧W.cell? ⟨(b13+1),2,none⟩=some (.slice none 0 0)) (by kernel_rfl) (by kernel_rfl) (by kernel_rfl) (by kernel_rfl) (Nat.le_of_ble_eq_true rfl) ⟨s0,s1,s2⟩ ?_;refine zB (A:=?A3) ?h3 ?k3
     case h3=>
      rintro w' ⟨z0,z1,z2⟩ K hK;simp only [zM,zqT,zqU,zqV,zqW,zqX]
      repeat still_step
      refine wpStill_nil ?_;exact hK
     have od:=ze ((zw (fun _=>False) wq).obj (fun e=>e) O13.out);have bd:=ze ((zw (fun _=>False) wq).obj (fun e=>e) O15.out);have kd:=ze (show Chg (fun _=>False) w wq.drew from KQ.out.drew);have kx:=ze (zw (fun k=>k=b13) wq);clear s0 s1 s2;generalize wq.drew=wd at *;refine zI rfl ?_;refine yx rfl 42 (.tmp 13) (.tmp 70) rfl b13 rfl (.int .i64 0) (.slice none 0 0) (.slice none 0 0) rfl rfl rfl rfl Tryz.sizeWhyR _ _ _ _ od.out ?_;intro W oW kW;have bW:=kW.obj (by omega) bd.out;go_wp2_with fail;refine ⟨⟨zf (o:=0) bW rfl,zf (o:=1) bW rfl,zf (o:=2) bW rfl⟩,?_⟩;have KW:=ze (kd.out.next kW (fun k hk e=>by omega));have OW:=ze oW;refine zB (A:=?B3) ?i3 ?j3
     case i3=>
      rintro w' z0 K hK;clear z0;simp only [zM,zqT,zqU,zqV,zqW,zqX]
      repeat still_step
      refine wpStill_nil ?_;exact hK
     refine zR ?_;go_wp2;have z0:=zf (o:=0) OW.out rfl;have z1:=zf (o:=1) OW.out rfl;have z2:=zf (o:=2) OW.out rfl;refine bodyPost_ret (v:=.tuple #[.int .i64 0,.agg #[.int .i64 0,.slice none 0 0,.slice none 0 0],.int .i64 1]) (by simp [results,Tryz.results14,go_sem,z0,z1,z2]) rfl ?_;rw [EB.out];exact ⟨KW.out,_,_,rfl,xB _ _ _⟩
 have g1:decide (b < 1)=false:=zqZ (by omega);have g2:decide (5000 < b)=false:=zqZ (by omega);have BB:=ze hb1;clear DB;by_cases h4:400 < R.length+ZB (zk P)
 · as_aux_lemma=>
   have EB:=ze (EN.out _ (DM.out LB.out OPB.out hb1 h4) (by decide));have g3:decide ((400:Int) < (R.length:Int)+n)=true:=zqY (by have:=NE.out;omega);generalize w2=wq at *;clear EN DM DS SH HA HI HFR NL hb1 h4;go_wp2_with fail;have s0:=zf (o:=0) O15.out rfl;have s1:=zf (o:=1) O15.out rfl;have s2:=zf (o:=2) O15.out rfl;refine zu (N:=218) [.rd [0,1],.ef 2,.rd [3]] (fun W=>W.cell? ⟨(b13+1),0,none⟩=some (.int .i64 0)∧W.cell? ⟨(b13+1),1,none⟩=some (.slice none 0 0)∧W.cell? ⟨(b13+1),2,none⟩=some (.slice none 0 0)) (by kernel_rfl) (by kernel_rfl) (by kernel_rfl) (by kernel_rfl) (Nat.le_of_ble_eq_true rfl) ⟨s0,s1,s2⟩ ?_;refine zB (A:=?A4) ?h4 ?k4
   case h4=>
    rintro w' ⟨z0,z1,z2⟩ K hK;simp only [zM,zqT,zqU,zqV,zqW,zqX]
    repeat still_step
    refine wpStill_nil ?_;exact hK
   have od:=ze ((zw (fun _=>False) wq).obj (fun e=>e) O13.out);have bd:=ze ((zw (fun _=>False) wq).obj (fun e=>e) O15.out);have kd:=ze (show Chg (fun _=>False) w wq.drew from KQ.out.drew);have kx:=ze (zw (fun k=>k=b13) wq);clear s0 s1 s2;generalize wq.drew=wd at *;refine zI rfl ?_;refine yx rfl 42 (.tmp 13) (.tmp 73) rfl b13 rfl (.int .i64 0) (.slice none 0 0) (.slice none 0 0) rfl rfl rfl rfl Tryz.sizeWhyR _ _ _ _ od.out ?_;intro W oW kW;have bW:=kW.obj (by omega) bd.out;go_wp2_with fail;refine ⟨⟨zf (o:=0) bW rfl,zf (o:=1) bW rfl,zf (o:=2) bW rfl⟩,?_⟩;have KW:=ze (kd.out.next kW (fun k hk e=>by omega));have OW:=ze oW;refine zB (A:=?B4) ?i4 ?j4
   case i4=>
    rintro w' z0 K hK;clear z0;simp only [zM,zqT,zqU,zqV,zqW,zqX]
    repeat still_step
    refine wpStill_nil ?_;exact hK
   refine zR ?_;go_wp2;have z0:=zf (o:=0) OW.out rfl;have z1:=zf (o:=1) OW.out rfl;have z2:=zf (o:=2) OW.out rfl;refine bodyPost_ret (v:=.tuple #[.int .i64 0,.agg #[.int .i64 0,.slice none 0 0,.slice none 0 0],.int .i64 3]) (by simp [results,Tryz.results14,go_sem,z0,z1,z2]) rfl ?_;rw [EB.out];exact ⟨KW.out,_,_,rfl,xB _ _ _⟩
 have g3:decide ((400:Int) < (R.length:Int)+n)=false:=zqZ (by have:=NE.out;omega);have DV:=ze (DS.out LB.out OPB.out hb1 h4);have R4:=ze (show R.length+ZB (zk P)<=400 from by omega);have S2:=ze (SH.out w2 KQ.out);clear EN DM DS SH hb1 h4 NL;go_wp2_with fail;clear g1 g2 g3;(with_reducible refine S2.out.mono ?_);rintro e w3 ⟨rfl,k3⟩;have KQ:=ze (KQ.out.trans k3);have O13:=ze (k3.obj (fun e=>e) O13.out);have O15:=ze (k3.obj (fun e=>e) O15.out);have hb13:b13 < w3.heap.size:=zq7 (zr O13.out) (zrj _);clear S2 k3;by_cases hs:ZX op c L < L.length
 · as_aux_lemma=>
   have SV:zoB op c L=(ZX op c L:Int):=if_pos hs;have SP:=List.findIdx_getElem (xs:=L) (p:=YC op c) (w:=hs);obtain ⟨x,hx⟩:∃ x,L[ZX op c L]? = some x:=⟨_,zq0 hs⟩
   have hxe:L[List.findIdx (YC op c) L]'hs=x:=by
    have h2:L[ZX op c L]? = some (L[List.findIdx (YC op c) L]'hs):=zq0 hs;rw [hx] at h2;exact (Option.some.inj h2).symm
   rw [hxe] at SP;unfold YC at SP;rw [zrl,zra] at SP;have DV2:=DV.out;rw [if_pos hs] at DV2;rw [SV];obtain ⟨l1,l2,_⟩:=yj.1 LB.out;have XL:=xV (zcV l2 x (zq2 hx));have CL:=xV l1;have ND:=ze (zo7 l1);have hi20:ZX op c L<=1000:=by omega
   obtain ⟨SP1,SP2⟩:=SP;have WH:=ze (fun y (hy:y∈x.2)=>of_decide_eq_true (show Xw c y=true from zrh.1 SP2 y hy));clear hxe;generalize ZX op c L=i at *
   have EB:=ze (show ex=(1,⟨(i:Int),x.2.map (fun y=>(tS c y:Int)),x.2.map (fun _=>(⟨[],[]⟩:zL))⟩,0) from by
    rw [<- EX.out];unfold Yt;rw [DV2,if_pos ⟨rfl,rfl⟩];unfold zhZ;rw [zbK (L:=L) (i:=(i:Int)) (x:=x) (by simpa using hx)];rfl)
   have g0:decide ((0:Int)<=(i:Int))=true:=zqY (by omega);have hil:(i:Int) < (L.length:Int):=by omega
   have OY:=zh w3 (.cells #[.int .i64 (i:Int),.slice none 0 0,.slice none 0 0] 42);have K4:=ze (zi (fun k=>w3.heap.size<=k) w3 (.cells #[.int .i64 (i:Int),.slice none 0 0,.slice none 0 0] 42));have hsz4:w3.heap.size < (w3.alloc (.cells #[.int .i64 (i:Int),.slice none 0 0,.slice none 0 0] 42)).heap.size:=zr OY;have Y4:=ze (show YIn w3.heap.size w3.heap.size (w3.alloc (.cells #[.int .i64 (i:Int),.slice none 0 0,.slice none 0 0] 42)) (i:Int) (.slice none 0 0) (.slice none 0 0) [] [] (fun _=>False) from ⟨OY,World.ownsRow_nil _ _ _ _,World.ownsRow_nil _ _ _ _,fun z hz=>(by cases hz),fun k hk=>hk.elim⟩);obtain ⟨g,o,sa,sc,hea,_,q0w,q1w,hset⟩:=HA.out.ents.get hx;cases hea;have QW:=ze q1w;have SETW:=ze hset.at_;have HCS:=ze (fun W (k:Chg (fun _=>False) w W)=>HA.out.set.chg k (fun _ _ e=>e));clear DV2 SP1 SP2 hs SV DV EX OY hx HA HI HFR NE R4 BB OPB LB q0w q1w hset l1 l2;obtain ⟨xo,xw⟩:=x;simp only at XL WH EB QW SETW;have hxl:=XL.2;have hcl16:=CL.2;have hbz:b13 < w3.heap.size:=hb13;go_wp2_with fail;clear g0;generalize hw4:w3.alloc (.cells #[.int .i64 (i:Int),.slice none 0 0,.slice none 0 0] 42)=w4 at *;clear hw4;obtain ⟨bs,hbs⟩:∃ b,b=w3.heap.size:=⟨_,rfl⟩;rw [<- hbs] at Y4 hbz;rw [<- hbs];have KS:=ze (show Chg (fun k=>bs<=k) w3 w4 from by rw [hbs];exact K4.out);have UP:=ze (fun W (k:Chg (fun k=>bs<=k) w3 W)=>show Chg (fun _=>False) w W from KQ.out.next k (fun j hj e=>by have:=KQ.out.size;omega));clear K4 hbs;go_loopw [21] (fun iv wr=>∃ (j:Nat) (tv pv:Value) (T:List Int) (Q:List (zL × Value × Value)),j<=xw.length∧iv=.int .i64 j∧Hid (YIn bs bs wr (i:Int) tv pv T Q (fun _=>False))∧Hid (T=(xw.take j).map (fun y=>(tS c y:Int))∧Q.map Prod.fst=(xw.take j).map (fun _=>(⟨[],[]⟩:zL)))∧Hid (Chg (fun k=>bs<=k) w3 wr)) (fun iv _=>xw.length - (intOf iv).toNat)
   case atStart=>exact ⟨0,_,_,[],[],by omega,rfl,Y4,ze ⟨rfl,rfl⟩,KS⟩
   case round=>
   obtain ⟨j,tv,pv,T,Q,hj,rfl,HY,HT,HK⟩:=hrel;have q1:=zj (UP.out wr HK.out) (fun e=>e) QW.out;by_cases hjl:j < xw.length
   rotate_left
   · obtain rfl:j=xw.length:=by omega
     have TT:=ze (show T=xw.map (fun y=>(tS c y:Int)) from by rw [HT.out.1,zrk]);have QQ:=ze (show Q.map Prod.fst=xw.map (fun _=>(⟨[],[]⟩:zL)) from by rw [HT.out.2,zrk]);have O13:=ze (HK.out.obj (fun e=>by omega) O13.out);have OB:=ze HY.out.obj;have KQ:=ze (UP.out wr HK.out);obtain ⟨ta,tc,rfl⟩:=zl HY.out.tos;obtain ⟨pa,pc,rfl⟩:=zl HY.out.prf;have HYY:=ze HY.out;clear HT HK HY HCS;go_wp2_with fail;clear q1;have s0:=zf (o:=0) OB.out rfl;have s1:=zf (o:=1) OB.out rfl;have s2:=zf (o:=2) OB.out rfl;refine zu (N:=218) [.rd [0,1],.ef 2,.rd [3]] (fun W=>W.cell? ⟨bs,0,none⟩=some (.int .i64 (i:Int))∧W.cell? ⟨bs,1,none⟩=some (.slice ta T.length tc)∧W.cell? ⟨bs,2,none⟩=some (.slice pa Q.length pc)) (by kernel_rfl) (by kernel_rfl) (by kernel_rfl) (by kernel_rfl) (Nat.le_of_ble_eq_true rfl) ⟨s0,s1,s2⟩ ?_;refine zB (A:=?A5) ?h5 ?k5
     case h5=>
      rintro w' ⟨z0,z1,z2⟩ K hK;simp only [zM,zqT,zqU,zqV,zqW,zqX]
      repeat still_step
      refine wpStill_nil ?_;exact hK
     have od:=ze ((zw (fun _=>False) wr).obj (fun e=>e) O13.out);have bd:=ze ((zw (fun _=>False) wr).obj (fun e=>e) OB.out);have kd:=ze (show Chg (fun _=>False) w wr.drew from KQ.out.drew);have kx:=ze (zw (fun k=>k=b13) wr);clear s0 s1 s2;generalize wr.drew=wd at *;refine zI rfl ?_;refine yx rfl 42 (.tmp 13) (.tmp 123) rfl b13 rfl (.int .i64 (i:Int)) (.slice ta T.length tc) (.slice pa Q.length pc) rfl rfl rfl rfl Tryz.sizeWhyR _ _ _ _ od.out ?_;intro W oW kW;have bW:=kW.obj (by omega) bd.out;go_wp2_with fail;refine ⟨⟨zf (o:=0) bW rfl,zf (o:=1) bW rfl,zf (o:=2) bW rfl⟩,?_⟩;have KW:=ze (kd.out.next kW (fun k hk e=>by omega));have OW:=ze oW;refine zB (A:=?B5) ?i5 ?j5
     case i5=>
      rintro w' z0 K hK;clear z0;simp only [zM,zqT,zqU,zqV,zqW,zqX]
      repeat still_step
      refine wpStill_nil ?_;exact hK
     refine zR ?_;go_wp2;have z0:=zf (o:=0) OW.out rfl;have z1:=zf (o:=1) OW.out rfl;have z2:=zf (o:=2) OW.out rfl;refine bodyPost_ret (v:=.tuple #[.int .i64 1,.agg #[.int .i64 (i:Int),.slice ta T.length tc,.slice pa Q.length pc],.int .i64 0]) (by simp [results,Tryz.results14,go_sem,z0,z1,z2]) rfl ?_;rw [EB.out];have HW:=HYY.out;have KX:=kx.out.trans kW;refine ⟨KW.out,_,_,rfl,?_,?_⟩
     · have h1:=(zgi HW.tos).chg KX (fun k hk e=>by have:=(HW.tos.lt k hk).1;omega)
       simp only;rw [<- TT.out];exact h1.up17 (fun k hk=>⟨by have:=(HW.tos.lt k hk).1;omega,by have:=(HW.tos.lt k hk).2;have:=KX.size;omega⟩)
     · have h2:=(zcQ HW.prf HW.ent).chg KX (fun k hk e=>by
        rcases hk with hk | hk
        · have:=(HW.gap k hk).1;omega
        · have:=(HW.prf.lt k hk).1;omega)
       rw [QQ.out] at h2
       exact h2.up (fun k hk=>by
        have hz:=KX.size;rcases hk with hk | hk
        · have:=HW.gap k hk;exact ⟨by omega,by omega⟩
        · have:=HW.prf.lt k hk;exact ⟨by omega,by omega⟩)
   obtain ⟨y,hy⟩:∃ y,xw[j]? = some y:=⟨_,zq0 hjl⟩;have YM:=WH.out y (zq2 hy);have TL:=ze (zp4 YM);have TA:=ze (fun k z (h:c[k]? = some z)=>zqC ND.out h YM)
   have TS:=ze (show ∀ (b:Bool),xw.take (if b=true then j+1 else j)=xw.take j++(if b=true then [y] else []) from fun b=>by
    cases b with
    | true=>rw [if_pos rfl,if_pos rfl,zri,hy];rfl
    | false=>simp)
   obtain ⟨_,_,e1,_,hws⟩:=SETW.out;cases e1;obtain ⟨yb,yo,rfl,_,y0w,_⟩:=hws j y hy;have YW:=ze y0w
   have TJ:=ze (show ∀ m:Bool,(xw.take (if m=true then j+1 else j)).length=(if m=true then j+1 else j) from fun m=>by
    rw [zq5];cases m with
    | true=>rw [if_pos rfl];omega
    | false=>rw [if_neg (by decide)];omega)
   have TE:=ze (show xw.take (j+1)=xw.take j++[y] from by rw [zri,hy];rfl);clear hws y0w hy;have HT0:=ze HT.out;have HK0:=ze HK.out;go_wp2_with fail;clear q1;have KTY:=ze (show ∃ ty,ty=tS c y from ⟨_,rfl⟩);generalize hty:tS c y=ty at *;have KTY:=ze hty;clear hty;go_loopw [22] (fun iv wr=>∃ (k:Nat) (m:Bool) (tv pv:Value) (T:List Int) (Q:List (zL × Value × Value)),k<=c.length∧iv=.int .i64 k∧Hid (m=decide (ty < k))∧Hid (YIn bs bs wr (i:Int) tv pv T Q (fun _=>False))∧Hid (T=(xw.take (if m=true then j+1 else j)).map (fun y=>(tS c y:Int))∧Q.map Prod.fst=(xw.take (if m=true then j+1 else j)).map (fun _=>(⟨[],[]⟩:zL)))∧Hid (Chg (fun k=>bs<=k) w3 wr)) (fun iv _=>c.length - (intOf iv).toNat)
   case atStart=>exact ⟨0,false,_,_,T,Q,by omega,rfl,ze (by simp),HY,HT0,HK0⟩
   case round=>
   obtain ⟨k,m,tv,pv,T,Q,hk,rfl,HM,HY,HT,HK⟩:=hrel;by_cases hkl:k < c.length
   rotate_left
   · obtain rfl:k=c.length:=by omega
     have hm:m=true:=by rw [HM.out];exact zqY TL.out
     subst hm;have HT2:=ze (by have:=HT.out;rw [if_pos rfl] at this;exact this:T=(xw.take (j+1)).map (fun y=>(tS c y:Int))∧Q.map Prod.fst=(xw.take (j+1)).map (fun _=>(⟨[],[]⟩:zL)));clear HT HM;go_wp2;go_roundw
     case rel=>exact ⟨j+1,tv,pv,T,Q,by omega,by go_num,HY,HT2,HK⟩
     case measure=>simp [intOf];omega
   obtain ⟨z,hz⟩:∃ z,c[k]? = some z:=⟨_,zq0 hkl⟩;have q1:=zj (UP.out wr HK.out) (fun e=>e) QW.out;have y0:=zj (UP.out wr HK.out) (fun e=>e) YW.out;obtain ⟨_,_,e1,_,hcs⟩:=HCS.out wr (UP.out wr HK.out);cases e1;obtain ⟨zb,zo,rfl,_,z0,_⟩:=hcs k z hz;have TZ:=TA.out k z hz;have hij:(j:Int) < (xw.length:Int):=by omega
   have TLN:=ze (congrArg List.length HT.out.1);have QLN:=ze (congrArg List.length HT.out.2);clear hcs hz;by_cases hzy:z=y
   · as_aux_lemma=>
     have n1:(z.toList == y.toList)=true:=by rw [xC,zqY hzy]
     obtain rfl:k=ty:=TZ.1 hzy;have hm:m=false:=by rw [HM.out];exact zqZ (by omega)
     subst hm;have HT1:=ze (by have:=HT.out;rw [if_neg (by decide)] at this;exact this:T=(xw.take j).map (fun y=>(tS c y:Int))∧Q.map Prod.fst=(xw.take j).map (fun _=>(⟨[],[]⟩:zL)));have TL2:=TLN.out;have QL2:=QLN.out;rw [if_neg (by decide),zq4,zq5] at TL2;rw [if_neg (by decide),zq4,zq4,zq5] at QL2;have hT17:T.length<=16:=by omega
     have hQ17:Q.length<=16:=by omega
     have T2:=ze (show T++[(k:Int)]=(xw.take (j+1)).map (fun y=>(tS c y:Int)) from by
      rw [TE.out,List.map_append,<- HT1.out.1];show _=T++[((tS c y:Nat):Int)];rw [KTY.out])
     have Q2:=ze (show ∀ z:Value × Value,(Q++[((⟨[],[]⟩:zL),z)]).map Prod.fst=(xw.take (j+1)).map (fun _=>(⟨[],[]⟩:zL)) from fun z=>by rw [TE.out,List.map_append,List.map_append,<- HT1.out.2];rfl);clear TL2 QL2 TLN QLN HT HT1 HM TZ hzy;go_wp2_with fail;go_quiet (fail);rename_i nq;have HY:=ze (HY.out.chg (show Chg (fun _=>False) wr (wr.drewN nq) from (Chg.refl _ _).drewN nq));have HK:=ze (HK.out.drewN nq);clear q1 y0 z0;generalize wr.drewN nq=wn at *;obtain ⟨ta,tc,rfl⟩:=zl HY.out.tos;obtain ⟨pa,pc,rfl⟩:=zl HY.out.prf;have x1:=zf (o:=1) (HY.out.chg (zi (fun _=>False) wn (.cells #[.int .i64 (k:Int)] 3))).obj rfl;have ka:=zi (fun _=>False) wn (.cells #[.int .i64 (k:Int)] 3);have x0:=zf (o:=1) HY.out.obj rfl;have EA:=ze (HY.out.chg ka);have KA:=ze ((HK.out.trans (ka.mono (T:=fun k=>bs<=k) fun _ _ e=>e.elim)));have hba:bs<=(wn.alloc (.cells #[.int .i64 (k:Int)] 3)).heap.size:=by have:=zr EA.out.obj;omega
     have obi:=zh wn (.cells #[.int .i64 (k:Int)] 3);have OBI:=ze obi;clear obi;clear ka HY HK;go_wp2_with (at_builtin;go_loud (refine Zq rfl (.tmp 112) (.tmp 114) 36 rfl 3 1 8 Tryz.underlying36 Tryz.elemInt' bs (.slice ta T.length tc) T.length (T.map (Value.int .i64)) rfl EA.out.tos _ [.int .i64 (k:Int)] 3 (0,0) rfl OBI.out rfl ?a11 ?a12 ?a13 ?a14 ?a15))
     case a11=>intro u hu;simp at hu;subst hu;rfl
     case a12=>omega
     case a13=>unfold maxLen;omega
     case a14=>exact hba
     intro v9 w9 o9 g9 sn9;obtain ⟨a9,c9,rfl⟩:=zl o9;obtain ⟨p1,p2,p3⟩:=EA.out.pushT g9 o9 sn9;have E9:=ze p1
     have K9:=ze (KA.out.trans (p3.mono (T:=fun k=>bs<=k) fun k _ e=>by
      rcases e with e | e
      · omega
      · exact (EA.out.tos.lt k e).1))
     have y1:=zf (o:=1) p2 rfl;have f1:=zm (o:=1) p2;have y2:=zf (o:=2) E9.out.obj rfl;have kb:=zi (fun _=>False) (w9.setCell ⟨bs,1,none⟩ (.slice a9 (T.length+1) c9)) (.cells #[.slice none 0 0,.slice none 0 0] 83);have EB:=ze (E9.out.chg kb);have KB:=ze (K9.out.trans (kb.mono (T:=fun k=>bs<=k) fun _ _ e=>e.elim));have hbb:bs<=((w9.setCell ⟨bs,1,none⟩ (.slice a9 (T.length+1) c9)).alloc (.cells #[.slice none 0 0,.slice none 0 0] 83)).heap.size:=by have:=zr EB.out.obj;omega
     have PP:=ze (show Zz ((w9.setCell ⟨bs,1,none⟩ (.slice a9 (T.length+1) c9)).alloc (.cells #[.slice none 0 0,.slice none 0 0] 83)) (.slice none 0 0) (.slice none 0 0) (fun _=>False) ⟨[],[]⟩ from zed _ _);have obn:=zh (w9.setCell ⟨bs,1,none⟩ (.slice a9 (T.length+1) c9)) (.cells #[.slice none 0 0,.slice none 0 0] 83);rw [World.size_setCell] at obn;have OBN:=ze obn;clear p1 p2 p3 o9 g9 EA KA x1 x0 hba kb E9 K9 obn;go_wp2_with (at_builtin;go_loud (refine Zq rfl (.tmp 118) (.tmp 120) 37 rfl 83 2 48 Tryz.underlying37 Tryz.elemProof bs (.slice pa Q.length pc) Q.length (xN Q) rfl EB.out.prf _ [.slice none 0 0,.slice none 0 0] 83 (0,0) rfl OBN.out rfl ?b11 ?b12 ?b13 ?b14 ?b15))
     case b11=>intro u hu;simp at hu;rcases hu with rfl | rfl <;> rfl
     case b12=>omega
     case b13=>unfold maxLen;omega
     case b14=>exact hbb
     clear y1 f1 y2;intro v8 w8 o8 g8 sn8;obtain ⟨a8,c8,rfl⟩:=zl o8;obtain ⟨p1,p2,p3⟩:=EB.out.pushP PP.out (fun k hk=>hk.elim) g8 o8 sn8;have E8:=ze p1
     have K8:=ze (KB.out.trans (p3.mono (T:=fun k=>bs<=k) fun k _ e=>by
      rcases e with e | e
      · omega
      · exact (EB.out.prf.lt k e).1))
     have y1:=zf (o:=2) p2 rfl;have f1:=zm (o:=2) p2;clear p1 p2 p3 o8 g8 EB KB hbb PP sn8 sn9;go_wp2;go_roundw
     case rel=>exact ⟨k+1,true,_,_,_,_,by omega,by go_num,ze (by simp),ze (by
      have:=E8.out;exact ⟨this.obj,this.tos,this.prf,fun z hz=>(this.ent z hz).up (fun k hk=>by rcases hk with e | e <;> exact e),fun k hk=>hk.elim⟩),ze (by rw [if_pos rfl];exact ⟨T2.out,Q2.out _⟩),K8⟩
     case measure=>simp [intOf];omega
   · as_aux_lemma=>
     have n1:(z.toList == y.toList)=false:=by rw [xC,zqZ hzy]
     have M2:=ze (show m=decide (ty < k+1) from by
      rw [HM.out,decide_eq_decide];have:k≠ty:=fun e=>hzy (TZ.2 e);omega)
     clear hzy TZ HM;go_wp2_with fail;go_quiet (fail);rename_i nq;have HY2:=ze (HY.out.chg (show Chg (fun _=>False) wr (wr.drewN nq) from (Chg.refl _ _).drewN nq));have HK2:=ze (HK.out.drewN nq);clear HY HK;go_wp2;go_roundw
     case rel=>exact ⟨k+1,m,tv,pv,T,Q,by omega,by go_num,M2,HY2,HT,HK2⟩
     case measure=>simp [intOf];omega
 have SV:zoB op c L=-1:=if_neg hs;have DV2:=DV.out;rw [if_neg hs] at DV2;rw [SV];have RU:=ze (zcL w3 ra R rc _ P b _ (HA.out.run.chg KQ.out).rules HA.out.run.nil HA.out.run.many HA.out.run.size (HA.out.run.chg KQ.out).certs HA.out.run.few HI.out.fit HI.out.cert);have DD:=ze DV2;clear DV DV2 SV hs;go_wp2_with fail;(with_reducible refine RU.out.mono ?_);rintro e w4 ⟨k4,hr⟩;have KQ:=ze (KQ.out.trans k4);have O13:=ze (k4.obj (fun e=>e) O13.out);have O15:=ze (k4.obj (fun e=>e) O15.out);clear RU k4 hb13;rcases hr with ⟨kk,hk0,hacc,rfl⟩ | ⟨s,oa,va,oc,vc,hacc,rfl,_,hrow⟩
 · as_aux_lemma=>
   have EB:=ze (show ex=(2,⟨0,[],[]⟩,0) from by
    rw [<- EX.out,zfE DD.out (by unfold zka;rw [hacc];show (2:Int)≠1;decide)];unfold zka;rw [hacc])
   have g1:(kk != 0)=true:=zre.2 hk0;have ka:=zi (fun _=>False) w4 (.cells #[.slice none 0 0,.slice none 0 0] 52);have KQ:=ze (KQ.out.trans ka);have O13:=ze (ka.obj (fun e=>e) O13.out);have O15:=ze (ka.obj (fun e=>e) O15.out);clear hk0 hacc EX DD HA HI HFR NE R4 BB OPB LB ka;go_wp2_with fail;generalize w4.alloc (.cells #[.slice none 0 0,.slice none 0 0] 52)=wq at *;have s0:=zf (o:=0) O15.out rfl;have s1:=zf (o:=1) O15.out rfl;have s2:=zf (o:=2) O15.out rfl;refine zu (N:=218) [.rd [0,1],.ef 2,.rd [3]] (fun W=>W.cell? ⟨(b13+1),0,none⟩=some (.int .i64 0)∧W.cell? ⟨(b13+1),1,none⟩=some (.slice none 0 0)∧W.cell? ⟨(b13+1),2,none⟩=some (.slice none 0 0)) (by kernel_rfl) (by kernel_rfl) (by kernel_rfl) (by kernel_rfl) (Nat.le_of_ble_eq_true rfl) ⟨s0,s1,s2⟩ ?_;refine zB (A:=?A6) ?h6 ?k6
   case h6=>
    rintro w' ⟨z0,z1,z2⟩ K hK;simp only [zM,zqT,zqU,zqV,zqW,zqX]
    repeat still_step
    refine wpStill_nil ?_;exact hK
   have od:=ze ((zw (fun _=>False) wq).obj (fun e=>e) O13.out);have bd:=ze ((zw (fun _=>False) wq).obj (fun e=>e) O15.out);have kd:=ze (show Chg (fun _=>False) w wq.drew from KQ.out.drew);have kx:=ze (zw (fun k=>k=b13) wq);clear s0 s1 s2;generalize wq.drew=wd at *;refine zI rfl ?_;refine yx rfl 42 (.tmp 13) (.tmp 133) rfl b13 rfl (.int .i64 0) (.slice none 0 0) (.slice none 0 0) rfl rfl rfl rfl Tryz.sizeWhyR _ _ _ _ od.out ?_;intro W oW kW;have bW:=kW.obj (by omega) bd.out;go_wp2_with fail;refine ⟨⟨zf (o:=0) bW rfl,zf (o:=1) bW rfl,zf (o:=2) bW rfl⟩,?_⟩;have KW:=ze (kd.out.next kW (fun k hk e=>by omega));have OW:=ze oW;refine zB (A:=?B6) ?i6 ?j6
   case i6=>
    rintro w' z0 K hK;clear z0;simp only [zM,zqT,zqU,zqV,zqW,zqX]
    repeat still_step
    refine wpStill_nil ?_;exact hK
   refine zR ?_;go_wp2;have z0:=zf (o:=0) OW.out rfl;have z1:=zf (o:=1) OW.out rfl;have z2:=zf (o:=2) OW.out rfl;refine bodyPost_ret (v:=.tuple #[.int .i64 2,.agg #[.int .i64 0,.slice none 0 0,.slice none 0 0],.int .i64 0]) (by simp [results,Tryz.results14,go_sem,z0,z1,z2]) rfl ?_;rw [EB.out];exact ⟨KW.out,_,_,rfl,xB _ _ _⟩
 have HACC:=ze hacc;have DS2:=ze (show yG R (zk P) L op c b=(0,⟨(yE s.rules b c op 0 0 L).1,(yE s.rules b c op 0 0 L).2,false,s.rules⟩) from by rw [DD.out];unfold zka;rw [hacc]);have R400:R.length<=400:=by have:=R4.out;omega
 have FEW:=ze (zhL.few hacc (fun r hr=>⟨HA.out.run.size R400 r hr,by
  obtain ⟨_,_,_,_,q⟩:=HA.out.run.rules;obtain ⟨j,hj⟩:=List.mem_iff_getElem?.1 hr;obtain ⟨_,_,_,_,_,_,q2⟩:=q j r hj;exact q2.2⟩))
 have F47:=ze ((YH hacc).1.inv.fit47 HI.out.fit HI.out.cert)
 have A0:=ze (show zcB s.rules b c op=0 from by
  have h1:=OPB.out;have h2:=BB.out;have h3:=FEW.out.1;unfold zcB zpK;rw [if_pos (yj.1 LB.out).1,if_neg (by omega),if_pos rfl,if_neg (by omega),if_neg (by omega)])
 have SZ:=ze (show ∀ r∈s.rules,r.1.size<=maxLen∧r.2.size<=maxLen from fun r hr=>⟨by have:=(FEW.out.2 r hr).1;unfold maxLen;omega,(FEW.out.2 r hr).2⟩);have FW:=ze (show Few s.rules from .inl ⟨FEW.out.1,fun r hr=>(FEW.out.2 r hr).1⟩);have ka:=zi (fun _=>False) w4 (.cells #[.slice oa s.order.length oc,.slice va s.rules.length vc] 52);have KQ:=ze (KQ.out.trans ka);have O13:=ze (ka.obj (fun e=>e) O13.out);have O15:=ze (ka.obj (fun e=>e) O15.out);have OR:=ze (zh w4 (.cells #[.slice oa s.order.length oc,.slice va s.rules.length vc] 52));have RR:=ze (zn hrow ka (fun _ _ e=>e));have NW:=ze (zji (w4.alloc (.cells #[.slice oa s.order.length oc,.slice va s.rules.length vc] 52)) _ L _ (HA.out.ents.chg KQ.out (fun _ _ e=>e)) hL HI.out.who);clear hacc ka hrow DD HACC;go_wp2_with fail;generalize w4.alloc (.cells #[.slice oa s.order.length oc,.slice va s.rules.length vc] 52)=w5 at *;generalize w4.heap.size=gq at *;(with_reducible refine NW.out.mono ?_);rintro e w6 ⟨hgood,_,k6⟩;obtain ⟨bl,rfl,_,hla⟩:=hgood (yj.1 LB.out).2.1;have KQ:=ze (KQ.out.trans k6);have O13:=ze (k6.obj (fun e=>e) O13.out);have O15:=ze (k6.obj (fun e=>e) O15.out);have OR:=ze (k6.obj (fun e=>e) OR.out);have RR:=ze (zn RR.out k6 (fun _ _ e=>e));have AS:=ze (zpg w6 bl _ L 0 _ _ s.rules c op b _ _ hla hL (ZT RR.out SZ.out) FW.out F47.out HI.out.who (HA.out.set.chg KQ.out (fun _ _ e=>e)) HI.out.set A0.out);have q1:=zf (o:=1) OR.out rfl;clear NW hgood k6 hla A0;generalize hag:yE s.rules b c op 0 0 L=ag at *;obtain ⟨a1,a2⟩:=ag;simp only at AS DS2;clear hag;go_wp2_with fail;clear q1;(with_reducible refine AS.out.mono ?_);rintro e w7 ⟨rfl,k7⟩;have KQ:=ze (KQ.out.trans k7);have O13:=ze (k7.obj (fun e=>e) O13.out);have O15:=ze (k7.obj (fun e=>e) O15.out);have OR:=ze (k7.obj (fun e=>e) OR.out);have RR:=ze (zn RR.out k7 (fun _ _ e=>e));clear AS k7;by_cases ha:a1=1
 rotate_left
 · as_aux_lemma=>
   have EB:=ze (show ex=(a1,⟨0,[],[]⟩,0) from by rw [<- EX.out,zfE DS2.out ha]);have g1:(a1 != 1)=true:=zre.2 ha;clear ha EX DS2 HA HI HFR NE R4 BB OPB LB OR RR FEW F47 SZ FW;generalize w7=wq at *;go_wp2_with fail;have s0:=zf (o:=0) O15.out rfl;have s1:=zf (o:=1) O15.out rfl;have s2:=zf (o:=2) O15.out rfl;refine zu (N:=218) [.rd [0,1,2],.ef 3,.rd [4]] (fun W=>W.cell? ⟨(b13+1),0,none⟩=some (.int .i64 0)∧W.cell? ⟨(b13+1),1,none⟩=some (.slice none 0 0)∧W.cell? ⟨(b13+1),2,none⟩=some (.slice none 0 0)) (by kernel_rfl) (by kernel_rfl) (by kernel_rfl) (by kernel_rfl) (Nat.le_of_ble_eq_true rfl) ⟨s0,s1,s2⟩ ?_;refine zB (A:=?A7) ?h7 ?k7
   case h7=>
    rintro w' ⟨z0,z1,z2⟩ K hK;simp only [zM,zqT,zqU,zqV,zqW,zqX]
    repeat still_step
    refine wpStill_nil ?_;exact hK
   have od:=ze ((zw (fun _=>False) wq).obj (fun e=>e) O13.out);have bd:=ze ((zw (fun _=>False) wq).obj (fun e=>e) O15.out);have kd:=ze (show Chg (fun _=>False) w wq.drew from KQ.out.drew);have kx:=ze (zw (fun k=>k=b13) wq);clear s0 s1 s2;generalize wq.drew=wd at *;refine zI rfl ?_;refine yx rfl 42 (.tmp 13) (.tmp 153) rfl b13 rfl (.int .i64 0) (.slice none 0 0) (.slice none 0 0) rfl rfl rfl rfl Tryz.sizeWhyR _ _ _ _ od.out ?_;intro W oW kW;have bW:=kW.obj (by omega) bd.out;go_wp2_with fail;refine ⟨⟨zf (o:=0) bW rfl,zf (o:=1) bW rfl,zf (o:=2) bW rfl⟩,?_⟩;have KW:=ze (kd.out.next kW (fun k hk e=>by omega));have OW:=ze oW;refine zB (A:=?B7) ?i7 ?j7
   case i7=>
    rintro w' z0 K hK;clear z0;simp only [zM,zqT,zqU,zqV,zqW,zqX]
    repeat still_step
    refine wpStill_nil ?_;exact hK
   refine zR ?_;go_wp2;have z0:=zf (o:=0) OW.out rfl;have z1:=zf (o:=1) OW.out rfl;have z2:=zf (o:=2) OW.out rfl;refine bodyPost_ret (v:=.tuple #[.int .i64 a1,.agg #[.int .i64 0,.slice none 0 0,.slice none 0 0],.int .i64 0]) (by simp [results,Tryz.results14,go_sem,z0,z1,z2]) rfl ?_;rw [EB.out];exact ⟨KW.out,_,_,rfl,xB _ _ _⟩
 subst ha
 obtain ⟨i,x,GX⟩:=(show ∃ i x,zgy R (zk P) L op c b ⟨1,a2,false,s.rules⟩ i x from by
  have:=zcr (R:=R) (C:=zk P) (L:=L) (op:=op) (c:=c) (b:=b) (by rw [DS2.out]) (by rw [DS2.out]);rw [DS2.out] at this;exact this)
 have hen:a2=(i:Int):=GX.entry;subst hen;have hx:=GX.at_;obtain ⟨l1,l2,_⟩:=yj.1 LB.out;have XL:=xV (zcV l2 x (zq2 hx));have CL:=xV l1;have hi20:i<=1000:=by have:=(zq1.1 hx).1;omega
 have hil:(i:Int) < (L.length:Int):=by have:=(zq1.1 hx).1;omega
 have EB:=ze (show ex=(1,⟨(i:Int),x.2.map (fun y=>(toW ⟨1,(i:Int),false,s.rules⟩ b c y:Int)),x.2.map (zg6 R (zk P) ⟨1,(i:Int),false,s.rules⟩ b c)⟩,0) from by
  rw [<- EX.out];unfold Yt;rw [DS2.out,if_pos ⟨rfl,rfl⟩];unfold zhZ;rw [zbK (L:=L) (i:=(i:Int)) (x:=x) (by simpa using hx)])
 have TW:=ze (fun y=>show toW ⟨1,(i:Int),false,s.rules⟩ b c y=c.findIdx (fun v=>decide (v∈Xz s.rules y b)) from rfl);have GT:=ze (fun y (hy:y∈x.2)=>Xe GX hy)
 have PM:=ze (fun y (hy:y∈x.2)=>show xl R (zk P) y (c.getD (toW ⟨1,(i:Int),false,s.rules⟩ b c y) ⟨#[]⟩) b=(0,zg6 R (zk P) ⟨1,(i:Int),false,s.rules⟩ b c y) from by
  obtain ⟨_,_,_,_,_,_,e⟩:=XI GX hy rfl;have h2:zg6 R (zk P) ⟨1,(i:Int),false,s.rules⟩ b c y=(xl R (zk P) y (c.getD (toW ⟨1,(i:Int),false,s.rules⟩ b c y) ⟨#[]⟩) b).2:=rfl;rw [h2,e])
 have WZS:=ze (HI.out.who x (zq2 hx))
 have MK:=ze (fun W (k:Chg (fun _=>False) w W) y u (hy:y.size<=maxLen) (hu:u.size<=maxLen) (h47:y.size<=140737488355328)=>zlR W ra R rc _ P _ b y u (HA.out.run.chg k) hy hu (fun k hk=>by
  have hcl2:=zrh.1 (yj.1 LB.out).2.2 k hk;have:=(Xx hcl2).2;omega) HI.out.fit HI.out.cert h47)
 obtain ⟨g,o,sa,sc,hea,_,q0w,q1w,hset⟩:=HA.out.ents.get hx;cases hea;have QW:=ze q1w;have SETW:=ze hset.at_;have HCS:=ze (fun W (k:Chg (fun _=>False) w W)=>HA.out.set.chg k (fun _ _ e=>e));have OY:=zh w7 (.cells #[.int .i64 (i:Int),.slice none 0 0,.slice none 0 0] 42);have K4:=ze (zi (fun k=>w7.heap.size<=k) w7 (.cells #[.int .i64 (i:Int),.slice none 0 0,.slice none 0 0] 42));have hsz4:w7.heap.size < (w7.alloc (.cells #[.int .i64 (i:Int),.slice none 0 0,.slice none 0 0] 42)).heap.size:=zr OY;have Y4:=ze (show YIn w7.heap.size w7.heap.size (w7.alloc (.cells #[.int .i64 (i:Int),.slice none 0 0,.slice none 0 0] 42)) (i:Int) (.slice none 0 0) (.slice none 0 0) [] [] (fun _=>False) from ⟨OY,World.ownsRow_nil _ _ _ _,World.ownsRow_nil _ _ _ _,fun z hz=>(by cases hz),fun k hk=>hk.elim⟩);have hbz:b13 < w7.heap.size:=zr O13.out;have hgz:gq < w7.heap.size:=zr OR.out;clear GX EX OY hx HA HI HFR NE R4 BB OPB LB q0w q1w hset l1 l2 DS2 FEW;obtain ⟨xo,xw⟩:=x;simp only at XL EB QW SETW GT PM WZS;have hxl:=XL.2;have hcl16:=CL.2;generalize hdd:toW ⟨1,(i:Int),false,s.rules⟩ b c=tw at *;generalize zg6 R (zk P) ⟨1,(i:Int),false,s.rules⟩ b c=pw at *;clear hdd;go_wp2_with fail;generalize hw8:w7.alloc (.cells #[.int .i64 (i:Int),.slice none 0 0,.slice none 0 0] 42)=w8 at *;clear hw8;obtain ⟨bs,hbs⟩:∃ b,b=w7.heap.size:=⟨_,rfl⟩;rw [<- hbs] at Y4 hbz hgz;rw [<- hbs];have KS:=ze (show Chg (fun k=>bs<=k) w7 w8 from by rw [hbs];exact K4.out);have UP:=ze (fun W (k:Chg (fun k=>bs<=k) w7 W)=>show Chg (fun _=>False) w W from KQ.out.next k (fun j hj e=>by have:=KQ.out.size;omega));have UPS:=ze (fun W (k:Chg (fun k=>bs<=k) w7 W)=>show bs<=W.heap.size from by rw [hbs];exact k.size);have RRB:=ze (fun k (e:(Value.slice va s.rules.length vc).ownBlock=some k)=>show k < bs from by rw [hbs];exact (RR.out.lt k e).2);clear K4 hbs;go_loopw [31] (fun iv wr=>∃ (j:Nat) (tv pv:Value) (T:List Int) (Q:List (zL × Value × Value)) (G:Nat->Prop),j<=xw.length∧iv=.int .i64 j∧Hid (YIn bs bs wr (i:Int) tv pv T Q G)∧Hid (T=(xw.take j).map (fun y=>(tw y:Int))∧Q.map Prod.fst=(xw.take j).map pw)∧Hid (Chg (fun k=>bs<=k) w7 wr)) (fun iv _=>xw.length - (intOf iv).toNat)
 case atStart=>exact ⟨0,_,_,[],[],_,by omega,rfl,Y4,ze ⟨rfl,rfl⟩,KS⟩
 case round=>
 obtain ⟨j,tv,pv,T,Q,G,hj,rfl,HY,HT,HK⟩:=hrel;have q1:=zj (UP.out wr HK.out) (fun e=>e) QW.out;by_cases hjl:j < xw.length
 rotate_left
 · as_aux_lemma=>
   obtain rfl:j=xw.length:=by omega
   have TT:=ze (show T=xw.map (fun y=>(tw y:Int)) from by rw [HT.out.1,zrk]);have QQ:=ze (show Q.map Prod.fst=xw.map pw from by rw [HT.out.2,zrk]);have O13:=ze (HK.out.obj (fun e=>by omega) O13.out);have OB:=ze HY.out.obj;have KQ:=ze (UP.out wr HK.out);obtain ⟨ta,tc,rfl⟩:=zl HY.out.tos;obtain ⟨pa,pc,rfl⟩:=zl HY.out.prf;have HYY:=ze HY.out;clear HT HK HY HCS;go_wp2_with fail;clear q1;have s0:=zf (o:=0) OB.out rfl;have s1:=zf (o:=1) OB.out rfl;have s2:=zf (o:=2) OB.out rfl;refine zu (N:=218) [.rd [0,1],.ef 2,.rd [3]] (fun W=>W.cell? ⟨bs,0,none⟩=some (.int .i64 (i:Int))∧W.cell? ⟨bs,1,none⟩=some (.slice ta T.length tc)∧W.cell? ⟨bs,2,none⟩=some (.slice pa Q.length pc)) (by kernel_rfl) (by kernel_rfl) (by kernel_rfl) (by kernel_rfl) (Nat.le_of_ble_eq_true rfl) ⟨s0,s1,s2⟩ ?_;refine zB (A:=?A8) ?h8 ?k8
   case h8=>
    rintro w' ⟨z0,z1,z2⟩ K hK;simp only [zM,zqT,zqU,zqV,zqW,zqX]
    repeat still_step
    refine wpStill_nil ?_;exact hK
   have od:=ze ((zw (fun _=>False) wr).obj (fun e=>e) O13.out);have bd:=ze ((zw (fun _=>False) wr).obj (fun e=>e) OB.out);have kd:=ze (show Chg (fun _=>False) w wr.drew from KQ.out.drew);have kx:=ze (zw (fun k=>k=b13) wr);clear s0 s1 s2;generalize wr.drew=wd at *;refine zI rfl ?_;refine yx rfl 42 (.tmp 13) (.tmp 217) rfl b13 rfl (.int .i64 (i:Int)) (.slice ta T.length tc) (.slice pa Q.length pc) rfl rfl rfl rfl Tryz.sizeWhyR _ _ _ _ od.out ?_;intro W oW kW;have bW:=kW.obj (by omega) bd.out;go_wp2_with fail;refine ⟨⟨zf (o:=0) bW rfl,zf (o:=1) bW rfl,zf (o:=2) bW rfl⟩,?_⟩;have KW:=ze (kd.out.next kW (fun k hk e=>by omega));have OW:=ze oW;refine zB (A:=?B8) ?i8 ?j8
   case i8=>
    rintro w' z0 K hK;clear z0;simp only [zM,zqT,zqU,zqV,zqW,zqX]
    repeat still_step
    refine wpStill_nil ?_;exact hK
   refine zR ?_;go_wp2;have z0:=zf (o:=0) OW.out rfl;have z1:=zf (o:=1) OW.out rfl;have z2:=zf (o:=2) OW.out rfl;refine bodyPost_ret (v:=.tuple #[.int .i64 1,.agg #[.int .i64 (i:Int),.slice ta T.length tc,.slice pa Q.length pc],.int .i64 0]) (by simp [results,Tryz.results14,go_sem,z0,z1,z2]) rfl ?_;rw [EB.out];have HW:=HYY.out;have KX:=kx.out.trans kW;refine ⟨KW.out,_,_,rfl,?_,?_⟩
   · have h1:=(zgi HW.tos).chg KX (fun k hk e=>by have:=(HW.tos.lt k hk).1;omega)
     simp only;rw [<- TT.out];exact h1.up17 (fun k hk=>⟨by have:=(HW.tos.lt k hk).1;omega,by have:=(HW.tos.lt k hk).2;have:=KX.size;omega⟩)
   · have h2:=(zcQ HW.prf HW.ent).chg KX (fun k hk e=>by
      rcases hk with hk | hk
      · have:=(HW.gap k hk).1;omega
      · have:=(HW.prf.lt k hk).1;omega)
     rw [QQ.out] at h2
     exact h2.up (fun k hk=>by
      have hz:=KX.size;rcases hk with hk | hk
      · have:=HW.gap k hk;exact ⟨by omega,by omega⟩
      · have:=HW.prf.lt k hk;exact ⟨by omega,by omega⟩)
 as_aux_lemma=>
 obtain ⟨y,hy⟩:∃ y,xw[j]? = some y:=⟨_,zq0 hjl⟩;have YM:=zq2 hy;obtain ⟨TL0,RE0,LD0⟩:=GT.out y YM;have TL:=ze TL0;have RE:=ze (RE0 (by first | trivial | rfl));have MP:=ze (PM.out y YM);have LD:=ze (show ∀ v,c[tw y]? = some v->v∈Xz s.rules y b from LD0);have TI:=ze (TW.out y);have Y47:=ze (WZS.out y YM);obtain ⟨_,_,e1,_,hws⟩:=SETW.out;cases e1;obtain ⟨yb,yo,rfl,_,y0w,hys⟩:=hws j y hy;have YW:=ze y0w;have YS:=ze hys;have TE:=ze (show xw.take (j+1)=xw.take j++[y] from by rw [zri,hy];rfl);have y0:=zj (UP.out wr HK.out) (fun e=>e) y0w;have TLN:=ze (congrArg List.length HT.out.1);have QLN:=ze (congrArg List.length HT.out.2);clear hws y0w hy TL0 RE0 LD0 GT PM WZS TW hys YM;have HT0:=ze HT.out;have HK0:=ze HK.out;go_wp2_with fail;clear q1 y0;generalize hty:tw y=ty at *;have KTY:=ze hty;clear hty;go_loopw [33] (fun iv wr=>∃ k:Nat,k<=ty∧iv=.int .i64 k∧Hid (YIn bs bs wr (i:Int) tv pv T Q G)∧Hid (Chg (fun k=>bs<=k) w7 wr)) (fun iv _=>c.length - (intOf iv).toNat)
 case atStart=>exact ⟨0,by omega,rfl,HY,HK0⟩
 case round=>
 obtain ⟨k,hk,rfl,HY,HK⟩:=hrel;have hkl:k < c.length:=by have:=TL.out;omega
 obtain ⟨z,hz⟩:∃ z,c[k]? = some z:=⟨_,zq0 hkl⟩;obtain ⟨_,_,e1,_,hcs⟩:=HCS.out wr (UP.out wr HK.out);cases e1;obtain ⟨zb,zo,rfl,_,z0,hzs⟩:=hcs k z hz;have ZS:=ze hzs;have RW:=ze (zn RR.out HK.out (fun k hk e=>by have:=RRB.out k hk;omega));have ORW:=ze (HK.out.obj (fun e=>by omega) OR.out);have r1:=zf (o:=1) ORW.out rfl;have LEADS:=ze (fun W (kk:Chg (fun _=>False) wr W)=>zfl (w:=W) (b:=b) ⟨(ZT RW.out SZ.out).chg kk (fun _ _ e=>e) |>.imp (fun _ hj=>zq7 hj kk.size),FW.out,YS.out⟩ F47.out Y47.out z);rw [RE.out] at LEADS
 have TB:=ze (show Xk s.rules y z b=decide (k=ty) from by
  have h2:=zdY (v:=z) RE.out;by_cases e:k=ty
  · rw [zqY e,<- h2]
    exact LD.out z (by rw [<- e];exact hz)
  · rw [zqZ e,zrm]
    intro q;have h3:=h2.2 q;have h5:=List.not_of_lt_findIdx (xs:=c) (p:=fun v=>decide (v∈Xz s.rules y b)) (i:=k) (by rw [<- TI.out];omega);rw [(zq1.1 hz).2] at h5;simp at h5;exact h5 h3)
 have GZ:=ze (fun (e:k=ty)=>show c.getD ty ⟨#[]⟩=z from by rw [<- e,zq6,hz];rfl);rw [TB.out] at LEADS;clear hcs hz hzs RW TB;have SS:=ze (fun W (kk:Chg (fun _=>False) wr W)=>(⟨zj kk (fun e=>e) r1,zj kk (fun e=>e) z0⟩:W.cell? ⟨gq,1,none⟩=some (.slice va s.rules.length vc)∧W.cell? ⟨zb,zo+k,none⟩=some (.string z)));go_wp2_with fail;refine zu (N:=218) [.rd [0,1,2,3,4,5,6,7],.ef 8,.rd [9,10,11,12,13]] (fun W=>W.cell? ⟨gq,1,none⟩=some (.slice va s.rules.length vc)∧W.cell? ⟨zb,zo+k,none⟩=some (.string z)) (by kernel_rfl) (by kernel_rfl) (by kernel_rfl) (by kernel_rfl) (Nat.le_of_ble_eq_true rfl) (SS.out wr (Chg.refl _ _)) ?_;refine zB (A:=?A9) ?h9 ?k9
 case h9=>
  rintro w' ⟨s0,s1⟩ K hK;simp only [zM,zqT,zqU,zqV,zqW,zqX]
  repeat still_step
  refine wpStill_nil ?_;exact hK
 have V1:=ze (LEADS.out wr.drew (zw _ _));clear r1 z0;refine zI rfl ?_;go_wp2_with fail;(with_reducible refine V1.out.mono ?_);rintro e wl ⟨rfl,k9⟩;have kf:=(zw (fun _=>False) wr).trans k9;have HY:=ze (HY.out.chg kf);have HK:=ze (HK.out.trans (kf.mono (T:=fun k=>bs<=k) fun _ _ e=>e.elim));have S9:=ze (SS.out wl kf);clear V1 k9 kf LEADS SS;go_wp2_with fail;refine ⟨S9.out,?_⟩;refine zB (A:=?B9) ?i9 ?j9
 case i9=>
  rintro w' s0 K hK;clear s0;simp only [zM,zqT,zqU,zqV,zqW,zqX]
  repeat still_step
  refine wpStill_nil ?_;exact hK
 refine zR ?_;by_cases hkt:k=ty
 rotate_left
 · as_aux_lemma=>
   rw [zqZ hkt];go_wp2;go_roundw
   case rel=>exact ⟨k+1,by omega,by go_num,HY,HK⟩
   case measure=>simp [intOf];omega
 subst hkt;rw [zqY rfl];have GZ2:=GZ.out rfl;have MP2:=MP.out;rw [GZ2] at MP2;have MM:=MK.out wl (UP.out wl HK.out) y z YS.out ZS.out Y47.out;rw [MP2] at MM;have MM:=ze MM;have z1:=S9.out.2;have TL2:=TLN.out;have QL2:=QLN.out;rw [zq4,zq5] at TL2;rw [zq4,zq4,zq5] at QL2;have hT17:T.length<=16:=by omega
 have hQ17:Q.length<=16:=by omega
 have T2:=ze (show T++[(k:Int)]=(xw.take (j+1)).map (fun y=>(tw y:Int)) from by
  rw [TE.out,List.map_append,<- HT0.out.1];show _=T++[((tw y:Nat):Int)];rw [KTY.out])
 have Q2:=ze (show ∀ z:Value × Value,(Q++[(pw y,z)]).map Prod.fst=(xw.take (j+1)).map pw from fun z=>by
  rw [TE.out,List.map_append,List.map_append,<- HT0.out.2];rfl)
 have LTB:=ze (zr HY.out.obj);have LTT:=ze (fun q (e:tv.ownBlock=some q)=>(HY.out.tos.lt q e).2);have LTP:=ze (fun q (e:pv.ownBlock=some q)=>(HY.out.prf.lt q e).2);clear TL2 QL2 TLN QLN HT MK MP MP2 GZ GZ2 TE HT0 TI S9;go_wp2_with fail;clear z1;(with_reducible refine MM.out.mono ?_);rintro e wm ⟨km,iv,sv,rfl,hit,hst⟩;obtain ⟨ia,ic,rfl⟩:=hit.shape;obtain ⟨s2a,s2c,rfl⟩:=zl hst;generalize hn1:(pw y).items.length=n1 at *;generalize hn2:(pw y).steps.length=n2 at *;have kp:=zi (fun _=>False) wm (.cells #[.slice ia n1 ic,.slice s2a n2 s2c] 83);have OB36:=ze (zh wm (.cells #[.slice ia n1 ic,.slice s2a n2 s2c] 83))
 have PR:=ze (show Zz (wm.alloc (.cells #[.slice ia n1 ic,.slice s2a n2 s2c] 83)) (.slice ia n1 ic) (.slice s2a n2 s2c) (fun q=>wl.heap.size<=q∧q < wm.heap.size) (pw y) from by
  refine ⟨hit.chg kp (fun _ _ e=>e),?_⟩;have h1:=zaf (l:=(pw y).steps) (v:=.slice s2a n2 s2c) (base:=wl.heap.size) (by rw [hn2];exact hst);exact (h1.chg kp (fun _ _ e=>e)).up (fun q hq=>hst.lt q hq))
 have HY:=ze (HY.out.chg (km.trans kp));have HK:=ze (HK.out.trans ((km.trans kp).mono (T:=fun k=>bs<=k) fun _ _ e=>e.elim));have WLM:=ze km.size;have c0:=zf (o:=0) OB36.out rfl;have c1:=zf (o:=1) OB36.out rfl;clear MM hn1 hn2 hit hst km kp;obtain ⟨ta,tc,rfl⟩:=zl HY.out.tos;obtain ⟨pa,pc,rfl⟩:=zl HY.out.prf;have x1:=zf (o:=1) (HY.out.chg (zi (fun _=>False) (wm.alloc (.cells #[.slice ia n1 ic,.slice s2a n2 s2c] 83)) (.cells #[.int .i64 (k:Int)] 3))).obj rfl;have ka:=zi (fun _=>False) (wm.alloc (.cells #[.slice ia n1 ic,.slice s2a n2 s2c] 83)) (.cells #[.int .i64 (k:Int)] 3);have x0:=zf (o:=1) HY.out.obj rfl;have EA:=ze (HY.out.chg ka);have KA:=ze ((HK.out.trans (ka.mono (T:=fun k=>bs<=k) fun _ _ e=>e.elim)));have hba:bs<=((wm.alloc (.cells #[.slice ia n1 ic,.slice s2a n2 s2c] 83)).alloc (.cells #[.int .i64 (k:Int)] 3)).heap.size:=by have:=zr EA.out.obj;omega
 have obi:=zh (wm.alloc (.cells #[.slice ia n1 ic,.slice s2a n2 s2c] 83)) (.cells #[.int .i64 (k:Int)] 3);rw [zq8] at obi;have OBI:=ze obi;clear obi;have OBA:=ze (ka.obj (fun e=>e) OB36.out);have PRA:=ze (PR.out.chg ka (fun _ _ e=>e));have SZA:=ze (show wm.heap.size<=((wm.alloc (.cells #[.slice ia n1 ic,.slice s2a n2 s2c] 83)).alloc (.cells #[.int .i64 (k:Int)] 3)).heap.size from by rw [zq8,zq8];omega);clear ka HY HK;go_wp2_with (at_builtin;go_loud (refine Zq rfl (.tmp 206) (.tmp 208) 36 rfl 3 1 8 Tryz.underlying36 Tryz.elemInt' bs (.slice ta T.length tc) T.length (T.map (Value.int .i64)) rfl EA.out.tos _ [.int .i64 (k:Int)] 3 (0,0) rfl OBI.out rfl ?a21 ?a22 ?a23 ?a24 ?a25))
 case a21=>intro u hu;simp at hu;subst hu;rfl
 case a22=>omega
 case a23=>unfold maxLen;omega
 case a24=>exact hba
 intro v9 w9 o9 g9 sn9;obtain ⟨a9,c9,rfl⟩:=zl o9;obtain ⟨p1,p2,p3⟩:=EA.out.pushT g9 o9 sn9;have E9:=ze p1
 have K9:=ze (KA.out.trans (p3.mono (T:=fun k=>bs<=k) fun k _ e=>by
  rcases e with e | e
  · omega
  · exact (EA.out.tos.lt k e).1))
 have OB9:=ze (p3.obj (fun e=>by
  rcases e with e | e
  · have h1:=LTB.out
    have h2:=WLM.out;omega
  · have h1:=LTT.out _ e
    have h2:=WLM.out;omega) OBA.out)
 have PR9:=ze (PRA.out.chg p3 (fun q hq e=>by
  rcases e with e | e
  · have h1:=LTB.out
    omega
  · have h1:=LTT.out _ e
    omega))
 have b0:=zf (o:=0) OB9.out rfl;have b1:=zf (o:=1) OB9.out rfl;have y1:=zf (o:=1) p2 rfl;have f1:=zm (o:=1) p2;have y2:=zf (o:=2) E9.out.obj rfl;have kb:=zi (fun _=>False) (w9.setCell ⟨bs,1,none⟩ (.slice a9 (T.length+1) c9)) (.cells #[.slice ia n1 ic,.slice s2a n2 s2c] 83);have EB:=ze (E9.out.chg kb);have WN9:=ze (show wm.heap.size<=((w9.setCell ⟨bs,1,none⟩ (.slice a9 (T.length+1) c9)).alloc (.cells #[.slice ia n1 ic,.slice s2a n2 s2c] 83)).heap.size from Nat.le_trans SZA.out (Nat.le_trans p3.size kb.size));have KB:=ze (K9.out.trans (kb.mono (T:=fun k=>bs<=k) fun _ _ e=>e.elim));have hbb:bs<=((w9.setCell ⟨bs,1,none⟩ (.slice a9 (T.length+1) c9)).alloc (.cells #[.slice ia n1 ic,.slice s2a n2 s2c] 83)).heap.size:=by have:=zr EB.out.obj;omega
 have PP:=ze (show Zz ((w9.setCell ⟨bs,1,none⟩ (.slice a9 (T.length+1) c9)).alloc (.cells #[.slice ia n1 ic,.slice s2a n2 s2c] 83)) (.slice ia n1 ic) (.slice s2a n2 s2c) (fun q=>wl.heap.size<=q∧q < wm.heap.size) (pw y) from (PR9.out.chg kb (fun _ _ e=>e)));have obn:=zh (w9.setCell ⟨bs,1,none⟩ (.slice a9 (T.length+1) c9)) (.cells #[.slice ia n1 ic,.slice s2a n2 s2c] 83);rw [World.size_setCell] at obn;have OBN:=ze obn;clear p1 p2 p3 o9 g9 EA KA x1 x0 hba kb E9 K9 obn;go_wp2_with (at_builtin;go_loud (refine Zq rfl (.tmp 212) (.tmp 214) 37 rfl 83 2 48 Tryz.underlying37 Tryz.elemProof bs (.slice pa Q.length pc) Q.length (xN Q) rfl EB.out.prf _ [.slice ia n1 ic,.slice s2a n2 s2c] 83 (0,0) rfl OBN.out rfl ?b21 ?b22 ?b23 ?b24 ?b25))
 case b21=>intro u hu;simp at hu;rcases hu with rfl | rfl <;> rfl
 case b22=>omega
 case b23=>unfold maxLen;omega
 case b24=>exact hbb
 clear y1 f1 y2;intro v8 w8 o8 g8 sn8;obtain ⟨a8,c8,rfl⟩:=zl o8
 have GPN:∀ q,(wl.heap.size<=q∧q < wm.heap.size)->bs<=q∧q < ((w9.setCell ⟨bs,1,none⟩ (.slice a9 (T.length+1) c9)).alloc (.cells #[.slice ia n1 ic,.slice s2a n2 s2c] 83)).heap.size∧q≠bs∧(Value.slice a9 (T.length+1) c9).ownBlock≠some q∧(Value.slice pa Q.length pc).ownBlock≠some q:=fun q hq=>by
  have h1:=LTB.out;have h2:=SZA.out;refine ⟨by omega,by have:=WN9.out;omega,by omega,fun e=>?_,fun e=>?_⟩
  · rcases sn9 with s | s
    · rw [s] at e;have:=LTT.out q e;omega
    · have:=s q e;omega
  · have:=LTP.out q e;omega
 obtain ⟨p1,p2,p3⟩:=EB.out.pushP PP.out GPN g8 o8 sn8;have E8:=ze p1
 have K8:=ze (KB.out.trans (p3.mono (T:=fun k=>bs<=k) fun k _ e=>by
  rcases e with e | e
  · omega
  · exact (EB.out.prf.lt k e).1))
 have y1:=zf (o:=2) p2 rfl;have f1:=zm (o:=2) p2;clear p1 p2 p3 o8 g8 EB KB hbb PP sn8 sn9 GPN;go_wp2;go_roundw
 case rel=>exact ⟨j+1,_,_,_,_,_,by omega,by go_num,E8,ze ⟨T2.out,Q2.out _⟩,K8⟩
 case measure=>simp [intOf];omega
end Go.Proofs.YthdfplafihmejaaGreat
